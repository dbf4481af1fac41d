/- Machine side and arithmetic of the law, put together by a program of the session. No conditions. -/
import Derived.Test.YtalnaafmonmlmaaKMinimal5
import Derived.Test.YtalnaafmonmlmaaKMinimal6
import Derived.Test.YtalnaafmonmlmaaKMinimal7
section
namespace Go.Proofs.Ytalnaafmonmlmaa.Q
open Go.RowKit Go.Proofs.YtalnaafmonmlmaaW.PrintWords Go.Proofs.YtalnaafmonmlmaaW.PrintLast Go.Proofs.YtalnaafmonmlmaaW.PrintMore
attribute [local go_sem] max2_int min2_int max_two min_two max_three min_three max_four min_four
set_option linter.unusedVariables false
set_option linter.unusedSimpArgs false
set_option maxHeartbeats 8000000
set_option maxRecDepth 100000
def fi_Element.f (k : Nat) (a0_0 : Int) (l0_1 : List Int) (a1 : Int) : Option (List Int × Int) := (fi_Check.f k a0_0 l0_1).bind fun t102 => (if t102 = 0 then ((fi_size.f k a0_0 l0_1 2147483647).bind fun bt103 => (if bt103.2 = 0 then (if a1 < 0 then (some (([] : List Int), 3)) else (if a1 ≥ bt103.1 then (some (([] : List Int), 3)) else ((gFElement.f k a0_0 l0_1 a1).bind fun t105 => (some (t105, 0))))) else (some (([] : List Int), bt103.2)))) else (some (([] : List Int), t102)))
theorem fi_Element.mono : ∀ a0 a1 a2 k, LeO (fi_Element.f k a0 a1 a2) (fi_Element.f (k + 1) a0 a1 a2) := by
 intro a0 a1 a2 k
 unfold fi_Element.f
 with_reducible repeat' first | exact fi_Check.mono _ _ _ | exact fi_size.mono _ _ _ _ | exact gFElement.mono _ _ _ _ | exact LeO.refl _ | exact LeO.none _ | refine LeO.ite ?_ ?_ | refine LeO.bind ?_ (fun _ => ?_)
theorem fi_Element.calls (k : Nat) (a0_0 : Int) (A0_1 : Option Addr) (c0_1 : Nat) (l0_1 : List Int) (a1 : Int) (r1 : List Int) (r2 : Int) (w : World) (hr0_1 : Kd.C (Kd.int .i64) w A0_1 l0_1.length l0_1) (hc0_1 : l0_1.length ≤ c0_1) (h : fi_Element.f k a0_0 l0_1 a1 = some (r1, r2)) :
  Calls Try.prog 16 #[.agg #[.int .i64 a0_0, .slice A0_1 l0_1.length c0_1], .int .i64 a1] w fun e w' => ∃ v0_ : Value, e = .returned (.tuple #[v0_, .int .i64 r2]) ∧ Kd.R (Kd.int .i64) 3 w' w.heap.size (fun _ => True) v0_ r1 ∧ Below w.heap.size w w' := by
 have hu33 := Try.underlying33
 have hu68 := Try.underlying68
 have HR0_1 := zm hr0_1
 have HC0_1 := zm hc0_1
 clear hr0_1 hc0_1
 have HB := zm (Below.refl w.heap.size w)
 have H := h; clear h; unfold fi_Element.f at H
 obtain ⟨t102, A3, H⟩ := zO H
 by_cases c4 : t102 = 0
 rotate_left
 ·rw [if_neg c4] at H
  obtain ⟨c4b0, c4b1⟩ := zU c4
  simp only [Option.some.injEq, Prod.mk.injEq] at H
  obtain ⟨rfl, rfl⟩ := H
  go_enter Try.func16, Try.ntmps16
  go_wp2_with (first | ((with_reducible refine gate_dst (N := 2) rfl ?_); refine zb 2 #[.int .i64 a0_0, .slice A0_1 l0_1.length c0_1] 33 ?_; intro gb101 hg w32 hbox hb; have BK101 := zm (hbox); have GW101 := zg HB hg; have GE101 := GW101; replace HB := zBb HB hb; clear hb hbox hg; obtain ⟨hcz33_0, hcz33_1, hfz33_0, hfz33_1⟩ := zf2 BK101) | ((with_reducible refine gate_callee (f := 23) rfl ?_); refine zG (some 10) Try.func23 #[.agg #[.int .i64 a0_0, .slice A0_1 l0_1.length c0_1]] ?_; (with_reducible refine (fi_Check.calls k a0_0 _ _ l0_1 t102 _ (zC (Kd.C_below HR0_1.out HB.out)) HC0_1.out A3.out).mono ?_); rintro e w34 ⟨rfl, hb⟩; refine ⟨_, rfl, ?_⟩; replace BK101 := zKb BK101 hb; replace HB := zBb HB hb))
  go_ret2
  exact ⟨_, zQ, by first | exact Kd.R_nil _ _ _ _ _ | exact Kd.N_nil _ _ _ _ _ | exact Kd.V_nil _ _ _ _ _ | exact Kd.Q_nil _ _ _ _ _ | exact Kd.S_nil _ _ _ _ _, zT⟩
 rw [if_pos c4] at H
 obtain ⟨c4b0, c4b1⟩ := zE c4; clear c4
 obtain ⟨⟨t103, t104⟩, A5, H⟩ := zO H; try dsimp only at H
 by_cases c6 : t104 = 0
 rotate_left
 ·rw [if_neg c6] at H
  obtain ⟨c6b0, c6b1⟩ := zU c6
  simp only [Option.some.injEq, Prod.mk.injEq] at H
  obtain ⟨rfl, rfl⟩ := H
  go_enter Try.func16, Try.ntmps16
  go_wp2_with (first | ((with_reducible refine gate_dst (N := 2) rfl ?_); refine zb 2 #[.int .i64 a0_0, .slice A0_1 l0_1.length c0_1] 33 ?_; intro gb101 hg w27 hbox hb; have BK101 := zm (hbox); have GW101 := zg HB hg; have GE101 := GW101; replace HB := zBb HB hb; clear hb hbox hg; obtain ⟨hcz28_0, hcz28_1, hfz28_0, hfz28_1⟩ := zf2 BK101) | ((with_reducible refine gate_callee (f := 23) rfl ?_); refine zG (some 10) Try.func23 #[.agg #[.int .i64 a0_0, .slice A0_1 l0_1.length c0_1]] ?_; (with_reducible refine (fi_Check.calls k a0_0 _ _ l0_1 t102 _ (zC (Kd.C_below HR0_1.out HB.out)) HC0_1.out A3.out).mono ?_); rintro e w29 ⟨rfl, hb⟩; refine ⟨_, rfl, ?_⟩; replace BK101 := zKb BK101 hb; replace HB := zBb HB hb; obtain ⟨hcz30_0, hcz30_1, hfz30_0, hfz30_1⟩ := zf2 BK101) | ((with_reducible refine gate_callee (f := 51) rfl ?_); refine zG (some 16) Try.func51 #[.agg #[.int .i64 a0_0, .slice A0_1 l0_1.length c0_1], .int .i64 2147483647] ?_; (with_reducible refine (fi_size.calls k a0_0 _ _ l0_1 2147483647 t103 t104 _ (zC (Kd.C_below HR0_1.out HB.out)) HC0_1.out A5.out).mono ?_); rintro e w31 ⟨rfl, hb⟩; refine ⟨_, rfl, ?_⟩; replace BK101 := zKb BK101 hb; replace HB := zBb HB hb))
  go_ret2
  exact ⟨_, zQ, by first | exact Kd.R_nil _ _ _ _ _ | exact Kd.N_nil _ _ _ _ _ | exact Kd.V_nil _ _ _ _ _ | exact Kd.Q_nil _ _ _ _ _ | exact Kd.S_nil _ _ _ _ _, zT⟩
 rw [if_pos c6] at H
 obtain ⟨c6b0, c6b1⟩ := zE c6; clear c6
 by_cases c7 : a1 < 0
 ·rw [if_pos c7] at H
  have c7b0 := decide_eq_true c7; clear c7
  simp only [Option.some.injEq, Prod.mk.injEq] at H
  obtain ⟨rfl, rfl⟩ := H
  go_enter Try.func16, Try.ntmps16
  go_wp2_with (first | ((with_reducible refine gate_dst (N := 2) rfl ?_); refine zb 2 #[.int .i64 a0_0, .slice A0_1 l0_1.length c0_1] 33 ?_; intro gb101 hg w8 hbox hb; have BK101 := zm (hbox); have GW101 := zg HB hg; have GE101 := GW101; replace HB := zBb HB hb; clear hb hbox hg; obtain ⟨hcz9_0, hcz9_1, hfz9_0, hfz9_1⟩ := zf2 BK101) | ((with_reducible refine gate_callee (f := 23) rfl ?_); refine zG (some 10) Try.func23 #[.agg #[.int .i64 a0_0, .slice A0_1 l0_1.length c0_1]] ?_; (with_reducible refine (fi_Check.calls k a0_0 _ _ l0_1 t102 _ (zC (Kd.C_below HR0_1.out HB.out)) HC0_1.out A3.out).mono ?_); rintro e w10 ⟨rfl, hb⟩; refine ⟨_, rfl, ?_⟩; replace BK101 := zKb BK101 hb; replace HB := zBb HB hb; obtain ⟨hcz11_0, hcz11_1, hfz11_0, hfz11_1⟩ := zf2 BK101) | ((with_reducible refine gate_callee (f := 51) rfl ?_); refine zG (some 16) Try.func51 #[.agg #[.int .i64 a0_0, .slice A0_1 l0_1.length c0_1], .int .i64 2147483647] ?_; (with_reducible refine (fi_size.calls k a0_0 _ _ l0_1 2147483647 t103 t104 _ (zC (Kd.C_below HR0_1.out HB.out)) HC0_1.out A5.out).mono ?_); rintro e w12 ⟨rfl, hb⟩; refine ⟨_, rfl, ?_⟩; replace BK101 := zKb BK101 hb; replace HB := zBb HB hb))
  go_ret2
  exact ⟨_, zQ, by first | exact Kd.R_nil _ _ _ _ _ | exact Kd.N_nil _ _ _ _ _ | exact Kd.V_nil _ _ _ _ _ | exact Kd.Q_nil _ _ _ _ _ | exact Kd.S_nil _ _ _ _ _, zT⟩
 rw [if_neg c7] at H
 have c7b0 := decide_eq_false c7; clear c7
 by_cases c13 : a1 ≥ t103
 ·rw [if_pos c13] at H
  have c13b0 := decide_eq_true c13; clear c13
  simp only [Option.some.injEq, Prod.mk.injEq] at H
  obtain ⟨rfl, rfl⟩ := H
  go_enter Try.func16, Try.ntmps16
  go_wp2_with (first | ((with_reducible refine gate_dst (N := 2) rfl ?_); refine zb 2 #[.int .i64 a0_0, .slice A0_1 l0_1.length c0_1] 33 ?_; intro gb101 hg w14 hbox hb; have BK101 := zm (hbox); have GW101 := zg HB hg; have GE101 := GW101; replace HB := zBb HB hb; clear hb hbox hg; obtain ⟨hcz15_0, hcz15_1, hfz15_0, hfz15_1⟩ := zf2 BK101) | ((with_reducible refine gate_callee (f := 23) rfl ?_); refine zG (some 10) Try.func23 #[.agg #[.int .i64 a0_0, .slice A0_1 l0_1.length c0_1]] ?_; (with_reducible refine (fi_Check.calls k a0_0 _ _ l0_1 t102 _ (zC (Kd.C_below HR0_1.out HB.out)) HC0_1.out A3.out).mono ?_); rintro e w16 ⟨rfl, hb⟩; refine ⟨_, rfl, ?_⟩; replace BK101 := zKb BK101 hb; replace HB := zBb HB hb; obtain ⟨hcz17_0, hcz17_1, hfz17_0, hfz17_1⟩ := zf2 BK101) | ((with_reducible refine gate_callee (f := 51) rfl ?_); refine zG (some 16) Try.func51 #[.agg #[.int .i64 a0_0, .slice A0_1 l0_1.length c0_1], .int .i64 2147483647] ?_; (with_reducible refine (fi_size.calls k a0_0 _ _ l0_1 2147483647 t103 t104 _ (zC (Kd.C_below HR0_1.out HB.out)) HC0_1.out A5.out).mono ?_); rintro e w18 ⟨rfl, hb⟩; refine ⟨_, rfl, ?_⟩; replace BK101 := zKb BK101 hb; replace HB := zBb HB hb))
  go_ret2
  exact ⟨_, zQ, by first | exact Kd.R_nil _ _ _ _ _ | exact Kd.N_nil _ _ _ _ _ | exact Kd.V_nil _ _ _ _ _ | exact Kd.Q_nil _ _ _ _ _ | exact Kd.S_nil _ _ _ _ _, zT⟩
 rw [if_neg c13] at H
 have c13b0 := decide_eq_false c13; clear c13
 obtain ⟨t105, A19, H⟩ := zO H
 simp only [Option.some.injEq, Prod.mk.injEq] at H
 obtain ⟨rfl, rfl⟩ := H
 go_enter Try.func16, Try.ntmps16
 go_wp2_with (first | ((with_reducible refine gate_dst (N := 2) rfl ?_); refine zb 2 #[.int .i64 a0_0, .slice A0_1 l0_1.length c0_1] 33 ?_; intro gb101 hg w20 hbox hb; have BK101 := zm (hbox); have GW101 := zg HB hg; have GE101 := GW101; replace HB := zBb HB hb; clear hb hbox hg; obtain ⟨hcz21_0, hcz21_1, hfz21_0, hfz21_1⟩ := zf2 BK101) | ((with_reducible refine gate_callee (f := 23) rfl ?_); refine zG (some 10) Try.func23 #[.agg #[.int .i64 a0_0, .slice A0_1 l0_1.length c0_1]] ?_; (with_reducible refine (fi_Check.calls k a0_0 _ _ l0_1 t102 _ (zC (Kd.C_below HR0_1.out HB.out)) HC0_1.out A3.out).mono ?_); rintro e w22 ⟨rfl, hb⟩; refine ⟨_, rfl, ?_⟩; replace BK101 := zKb BK101 hb; replace HB := zBb HB hb; obtain ⟨hcz23_0, hcz23_1, hfz23_0, hfz23_1⟩ := zf2 BK101) | ((with_reducible refine gate_callee (f := 51) rfl ?_); refine zG (some 16) Try.func51 #[.agg #[.int .i64 a0_0, .slice A0_1 l0_1.length c0_1], .int .i64 2147483647] ?_; (with_reducible refine (fi_size.calls k a0_0 _ _ l0_1 2147483647 t103 t104 _ (zC (Kd.C_below HR0_1.out HB.out)) HC0_1.out A5.out).mono ?_); rintro e w24 ⟨rfl, hb⟩; refine ⟨_, rfl, ?_⟩; replace BK101 := zKb BK101 hb; replace HB := zBb HB hb; obtain ⟨hcz25_0, hcz25_1, hfz25_0, hfz25_1⟩ := zf2 BK101) | ((with_reducible refine gate_callee (f := 52) rfl ?_); refine zG (some 32) Try.func52 #[.agg #[.int .i64 a0_0, .slice A0_1 l0_1.length c0_1], .int .i64 a1] ?_; (with_reducible refine (gFElement.calls k a0_0 _ _ l0_1 a1 t105 _ (zC (Kd.C_below HR0_1.out HB.out)) HC0_1.out A19.out).mono ?_); rintro e w26 ⟨v106, rfl, ho0, hb⟩; refine ⟨_, rfl, ?_⟩; have HO107 := zm (Kd.R_lower ho0 (zS HB)); replace BK101 := zKb BK101 hb; replace HB := zBb HB hb))
 go_ret2
 exact ⟨_, zQ, zR HO107.out, zT⟩
def xttrim.l0 : Nat → List Int → Int → Option (List Int)
 | 0, _, _ => none
 | k + 1, x0, x3 => if x3 > 0 then (if 0 ≤ (wrap64 (x3 - 1)) then (if (wrap64 (x3 - 1)) < (x0.length : Int) then (if (rd x0 (wrap64 (x3 - 1))) = 0 then (xttrim.l0 k x0 (wrap64 (x3 - 1))) else (if 0 ≤ x3 then (if x3 ≤ (x0.length : Int) then (some (x0.take (x3 : Int).toNat)) else (none)) else (none))) else (none)) else (none)) else (if 0 ≤ x3 then (if x3 ≤ (x0.length : Int) then (some (x0.take (x3 : Int).toNat)) else (none)) else (none))
def xttrim.f (k : Nat) (l0 : List Int) : Option (List Int) := xttrim.l0 k l0 (l0.length : Int)
theorem xttrim.mono_l : ∀ k, (∀ y0 y1, LeO (xttrim.l0 k y0 y1) (xttrim.l0 (k + 1) y0 y1))
 | 0 => fun _ _ r h => by simp [xttrim.l0] at h
 | k + 1 => by
  have ih0 := xttrim.mono_l k
  intro y0 y1
  unfold xttrim.l0
  with_reducible repeat' first | exact ih0 _ _ | exact LeO.refl _ | exact LeO.none _ | refine LeO.ite ?_ ?_ | refine LeO.bind ?_ (fun _ => ?_)
theorem xttrim.mono : ∀ a0 k, LeO (xttrim.f k a0) (xttrim.f (k + 1) a0) := by
 intro a0 k
 have ih0 := xttrim.mono_l k
 unfold xttrim.f
 with_reducible repeat' first | exact ih0 _ _ | exact LeO.refl _ | exact LeO.none _ | refine LeO.ite ?_ ?_ | refine LeO.bind ?_ (fun _ => ?_)
theorem xttrim.calls (k : Nat) (P0_ : Nat → Prop) (u9000_ : Value) (l0 : List Int) (r : List Int) (w0 w : World) (hB : Below w0.heap.size w0 w) (ho0 : Kd.R (Kd.int .u64) 84 w w0.heap.size P0_ u9000_ l0) (h : xttrim.f k l0 = some r) :
  Calls Try.prog 125 #[u9000_] w fun e w' => ∃ v0_ : Value, e = .returned (v0_) ∧ Kd.R (Kd.int .u64) 84 w' w0.heap.size (fun k_ => (P0_ k_ ∨ w.heap.size ≤ k_)) v0_ r ∧ Below w0.heap.size w0 w' ∧ Kept w w' (fun k_ => P0_ k_) := by
 have HO0 := zm (show Kd.R (Kd.int .u64) 84 w w0.heap.size (fun k_ => (P0_ k_ ∨ w.heap.size ≤ k_)) u9000_ l0 from Kd.R_mono ho0 (fun k_ hk => (.inl hk)))
 have HK := zm (Kept.refl w (fun k_ => P0_ k_))
 have HW0 := zm hB.size
 have HB := zm hB
 clear hB
 have H := h; clear h; unfold xttrim.f at H
 have H' := zm H
 clear H
 obtain ⟨Ao2, co2, eo2⟩ := Kd.R_slice HO0.out
 subst eo2
 go_enter Try.func125, Try.ntmps125
 go_wp2
 go_loopg [3] k (fun kq v3 w' => ∃ (x3_1 : Int), v3 = .int .i64 x3_1 ∧ Aside0 (xttrim.l0 kq l0 x3_1 = some r) ∧ Aside0 (kq ≤ k) ∧ Aside0 (Kd.R (Kd.int .u64) 84 w' w0.heap.size (fun k_ => (P0_ k_ ∨ w.heap.size ≤ k_)) (.slice Ao2 l0.length co2) l0) ∧ Aside0 (Kept w w' (fun k_ => P0_ k_)) ∧ Aside0 (Below w0.heap.size w0 w'))
 case atStart => exact ⟨((l0.length : Int)), zX, H', ⟨Nat.le_refl _⟩, ⟨zR HO0.out⟩, ⟨by repeat (first | (with_reducible first | exact HK.out | apply Kept.alloc | apply Kept.drewN | apply Kept.drew) | exact HK.out)⟩, ⟨zT⟩⟩
 case round =>
  clear H'
  obtain ⟨x3_1, rfl, HA, HK1, HO_0, HK, HB⟩ := hrel
  cases gk with
  | zero => exact absurd HA.out (by simp [xttrim.l0])
  | succ k1 =>
   have H := HA.out
   clear HA
   simp only [xttrim.l0] at H
   by_cases c3 : x3_1 > 0
   rotate_left
   ·rw [if_neg c3] at H
    have c3b0 := decide_eq_false c3; clear c3
    by_cases c11 : 0 ≤ x3_1
    rotate_left
    ·rw [if_neg c11] at H
     exact absurd H (by simp)
    rw [if_pos c11] at H
    have c11b0 := eq_true c11; have c11b1 := decide_eq_true c11; clear c11
    by_cases c12 : x3_1 ≤ (l0.length : Int)
    rotate_left
    ·rw [if_neg c12] at H
     exact absurd H (by simp)
    rw [if_pos c12] at H
    have c12b0 := eq_true c12; have c12b1 := decide_eq_true c12; clear c12
    obtain ⟨y105, hy105⟩ : ∃ y_ : List Int, y_ = (l0.take (x3_1 : Int).toNat) := ⟨_, rfl⟩
    replace H : (some y105) = some r := by first | (rw [hy105]; with_reducible exact H) | (have H2_ := (Option.bind_some _ _).symm.trans H; rw [hy105]; with_reducible exact H2_) | (have H2_ := (Option.bind_some _ _).symm.trans H; with_reducible exact H2_) | with_reducible exact H | (rw [hy105]; exact H) | exact H
    have Ny105 := zm hy105
    clear hy105
    obtain rfl := Option.some.inj H
    have q13 : (x3_1 : Int) ≤ ((l0.length : Int) : Int) := zD
    obtain ⟨i013, hi013, _, hsz13, _⟩ := info_parts info84
    have hcut13 := cut_to (P := Try.prog) 102 84 .i64 Try.underlying102 hi013 Ao2 l0.length co2 x3_1 zD q13 (Kd.R_reads' HO_0.out).2.1
    have hr13 := Kd.R_take (m := (x3_1 : Int).toNat) HO_0.out (by omega)
    have hy13 : y105.length = (x3_1 : Int).toNat := (by rw [Ny105.out, List.length_take]; omega)
    rw [← Ny105.out] at hr13
    rw [← hy13] at hr13 hcut13
    clear hy13 hi013 hsz13 HO_0
    have HO107 := zm hr13
    clear hr13
    replace q13 := eq_true q13
    go_wp2
    go_ret
    exact ⟨_, zQ, zR HO107.out, zT, by repeat (first | (with_reducible first | exact HK.out | apply Kept.alloc | apply Kept.drewN | apply Kept.drew) | exact HK.out)⟩
   rw [if_pos c3] at H
   have c3b0 := decide_eq_true c3; clear c3
   obtain ⟨ji4, hji4⟩ : ∃ j_ : Int, (wrap64 (x3_1 - 1)) = j_ := ⟨_, rfl⟩
   first | rw [hji4] at H | simp only [hji4] at H
   have hji4w : (IntKind.i64.wrap (x3_1 - 1)) = ji4 := (i64_w _).trans hji4
   by_cases c5 : 0 ≤ (ji4)
   rotate_left
   ·rw [if_neg c5] at H
    exact absurd H (by simp)
   rw [if_pos c5] at H
   have c5b0 := decide_eq_true c5; clear c5
   by_cases c6 : (ji4) < (l0.length : Int)
   rotate_left
   ·rw [if_neg c6] at H
    exact absurd H (by simp)
   rw [if_pos c6] at H
   have c6b0 := decide_eq_true c6; clear c6
   by_cases c7 : (rd l0 (ji4)) = 0
   ·rw [if_pos c7] at H
    obtain ⟨c7b0, c7b1⟩ := zE c7; clear c7
    have H' := zm H
    clear H
    obtain ⟨p101, q101, ad101, e101, hx101_0⟩ := zI ((Kd.R_reads' HO_0.out).2.2) ((ji4)) zD zD
    cases e101
    go_wp2
    go_roundg k1
    case measure => have := HK1.out; omega
    case rel => exact ⟨(ji4), (by first | rfl | (simp; done) | (simp only [← hji4] <;> (first | rfl | simp)) | (simp [*]; done)), H', ⟨by have := HK1.out; omega⟩, ⟨zR HO_0.out⟩, ⟨by repeat (first | (with_reducible first | exact HK.out | apply Kept.alloc | apply Kept.drewN | apply Kept.drew) | exact HK.out)⟩, ⟨zT⟩⟩
   rw [if_neg c7] at H
   obtain ⟨c7b0, c7b1⟩ := zU c7
   by_cases c8 : 0 ≤ x3_1
   rotate_left
   ·rw [if_neg c8] at H
    exact absurd H (by simp)
   rw [if_pos c8] at H
   have c8b0 := eq_true c8; have c8b1 := decide_eq_true c8; clear c8
   by_cases c9 : x3_1 ≤ (l0.length : Int)
   rotate_left
   ·rw [if_neg c9] at H
    exact absurd H (by simp)
   rw [if_pos c9] at H
   have c9b0 := eq_true c9; have c9b1 := decide_eq_true c9; clear c9
   obtain ⟨y102, hy102⟩ : ∃ y_ : List Int, y_ = (l0.take (x3_1 : Int).toNat) := ⟨_, rfl⟩
   replace H : (some y102) = some r := by first | (rw [hy102]; with_reducible exact H) | (have H2_ := (Option.bind_some _ _).symm.trans H; rw [hy102]; with_reducible exact H2_) | (have H2_ := (Option.bind_some _ _).symm.trans H; with_reducible exact H2_) | with_reducible exact H | (rw [hy102]; exact H) | exact H
   have Ny102 := zm hy102
   clear hy102
   obtain rfl := Option.some.inj H
   obtain ⟨p101, q101, ad101, e101, hx101_0⟩ := zI ((Kd.R_reads' HO_0.out).2.2) ((ji4)) zD zD
   cases e101
   have q10 : (x3_1 : Int) ≤ ((l0.length : Int) : Int) := zD
   obtain ⟨i010, hi010, _, hsz10, _⟩ := info_parts info84
   have hcut10 := cut_to (P := Try.prog) 102 84 .i64 Try.underlying102 hi010 (some ad101) l0.length co2 x3_1 zD q10 (Kd.R_reads' HO_0.out).2.1
   have hr10 := Kd.R_take (m := (x3_1 : Int).toNat) HO_0.out (by omega)
   have hy10 : y102.length = (x3_1 : Int).toNat := (by rw [Ny102.out, List.length_take]; omega)
   rw [← Ny102.out] at hr10
   rw [← hy10] at hr10 hcut10
   clear hy10 hi010 hsz10 HO_0
   have HO104 := zm hr10
   clear hr10
   replace q10 := eq_true q10
   go_wp2
   go_ret
   exact ⟨_, by first | rfl | (simp [errW_none, errW_some] <;> rfl) | (simp only [← hji4]; first | rfl | (simp [errW_none, errW_some] <;> rfl)) | (simp [*, errW_none, errW_some] <;> rfl), zR HO104.out, zT, by repeat (first | (with_reducible first | exact HK.out | apply Kept.alloc | apply Kept.drewN | apply Kept.drew) | exact HK.out)⟩
mutual
def xtpack.l0 : Nat → List Int → List Int → Int → Int → Option (ByteArray)
 | 0, _, _, _, _ => none
 | k + 1, x3, x17, x18, x19 => if x19 < x18 then (if 0 ≤ x19 then (if x19 < (x17.length : Int) then (xtpack.l1 k x3 x19 (rd x17 x19) x17 x18 x19 0) else (none)) else (none)) else (xtpack.l2 k x3 0)
def xtpack.l1 : Nat → List Int → Int → Int → List Int → Int → Int → Int → Option (ByteArray)
 | 0, _, _, _, _, _, _, _ => none
 | k + 1, x3, x4, x5, x17, x18, x19, x24 => if x24 < 8 then (if 0 ≤ (wrap64 (8 * x24)) then (if 0 ≤ (wrap64 ((wrap64 ((wrap64 ((x3.length : Int) - 1)) - (wrap64 (8 * x4)))) - x24)) then (if (wrap64 ((wrap64 ((wrap64 ((x3.length : Int) - 1)) - (wrap64 (8 * x4)))) - x24)) < (x3.length : Int) then (xtpack.l1 k (x3.set ((wrap64 ((wrap64 ((wrap64 ((x3.length : Int) - 1)) - (wrap64 (8 * x4)))) - x24)) : Int).toNat ((shr .u64 x5 (wrap64 (8 * x24))) % 256)) x4 x5 x17 x18 x19 (wrap64 (x24 + 1))) else (none)) else (none)) else (none)) else (xtpack.l0 k x3 x17 x18 (wrap64 (x19 + 1)))
def xtpack.l2 : Nat → List Int → Int → Option (ByteArray)
 | 0, _, _ => none
 | k + 1, x3, x7 => if 0 ≤ x7 then (if x7 < (x3.length : Int) then (if (rd x3 x7) = 0 then (xtpack.l2 k x3 (wrap64 (x7 + 1))) else (if x7 ≤ (x3.length : Int) then (some (strOfNums (x3.drop (x7 : Int).toNat))) else (none))) else (none)) else (none)
end
def xtpack.f (k : Nat) (l0 : List Int) : Option (ByteArray) := (xttrim.f k l0).bind fun t101 => (if (t101.length : Int) = 0 then (some (⟨#[]⟩ : ByteArray)) else (if 0 ≤ (wrap64 (8 * (t101.length : Int))) then (if (wrap64 (8 * (t101.length : Int)) : Int).toNat ≤ 281474976710656 then (xtpack.l0 k (List.replicate (wrap64 (8 * (t101.length : Int)) : Int).toNat 0) t101 (t101.length : Int) 0) else (none)) else (none)))
theorem xtpack.mono_l : ∀ k, (∀ y0 y1 y2 y3, LeO (xtpack.l0 k y0 y1 y2 y3) (xtpack.l0 (k + 1) y0 y1 y2 y3)) ∧ (∀ y0 y1 y2 y3 y4 y5 y6, LeO (xtpack.l1 k y0 y1 y2 y3 y4 y5 y6) (xtpack.l1 (k + 1) y0 y1 y2 y3 y4 y5 y6)) ∧ (∀ y0 y1, LeO (xtpack.l2 k y0 y1) (xtpack.l2 (k + 1) y0 y1))
 | 0 => ⟨fun _ _ _ _ r h => by simp [xtpack.l0] at h, fun _ _ _ _ _ _ _ r h => by simp [xtpack.l1] at h, fun _ _ r h => by simp [xtpack.l2] at h⟩
 | k + 1 => by
  obtain ⟨ih0, ih1, ih2⟩ := xtpack.mono_l k
  refine ⟨?_, ?_, ?_⟩
  ·intro y0 y1 y2 y3
   unfold xtpack.l0
   with_reducible repeat' first | exact ih0 _ _ _ _ | exact ih1 _ _ _ _ _ _ _ | exact ih2 _ _ | exact xttrim.mono _ _ | exact LeO.refl _ | exact LeO.none _ | refine LeO.ite ?_ ?_ | refine LeO.bind ?_ (fun _ => ?_)
  ·intro y0 y1 y2 y3 y4 y5 y6
   unfold xtpack.l1
   with_reducible repeat' first | exact ih0 _ _ _ _ | exact ih1 _ _ _ _ _ _ _ | exact ih2 _ _ | exact xttrim.mono _ _ | exact LeO.refl _ | exact LeO.none _ | refine LeO.ite ?_ ?_ | refine LeO.bind ?_ (fun _ => ?_)
  intro y0 y1
  unfold xtpack.l2
  with_reducible repeat' first | exact ih0 _ _ _ _ | exact ih1 _ _ _ _ _ _ _ | exact ih2 _ _ | exact xttrim.mono _ _ | exact LeO.refl _ | exact LeO.none _ | refine LeO.ite ?_ ?_ | refine LeO.bind ?_ (fun _ => ?_)
theorem xtpack.mono : ∀ a0 k, LeO (xtpack.f k a0) (xtpack.f (k + 1) a0) := by
 intro a0 k
 obtain ⟨ih0, ih1, ih2⟩ := xtpack.mono_l k
 unfold xtpack.f
 with_reducible repeat' first | exact ih0 _ _ _ _ | exact ih1 _ _ _ _ _ _ _ | exact ih2 _ _ | exact xttrim.mono _ _ | exact LeO.refl _ | exact LeO.none _ | refine LeO.ite ?_ ?_ | refine LeO.bind ?_ (fun _ => ?_)
theorem xtpack.calls (k : Nat) (P0_ : Nat → Prop) (u9000_ : Value) (l0 : List Int) (r : ByteArray) (w0 w : World) (hB : Below w0.heap.size w0 w) (ho0 : Kd.R (Kd.int .u64) 84 w w0.heap.size P0_ u9000_ l0) (h : xtpack.f k l0 = some r) :
  Calls Try.prog 117 #[u9000_] w fun e w' => e = .returned (.string r) ∧ Below w0.heap.size w0 w' ∧ Kept w w' (fun k_ => P0_ k_) := by
 have HO0 := zm (show Kd.R (Kd.int .u64) 84 w w0.heap.size (fun k_ => (P0_ k_ ∨ w.heap.size ≤ k_)) u9000_ l0 from Kd.R_mono ho0 (fun k_ hk => (.inl hk)))
 have HK := zm (Kept.refl w (fun k_ => P0_ k_))
 have HW0 := zm hB.size
 have HB := zm hB
 clear hB
 have H := h; clear h; unfold xtpack.f at H
 obtain ⟨t101, A2, H⟩ := zO H
 by_cases c3 : (t101.length : Int) = 0
 ·rw [if_pos c3] at H
  obtain ⟨c3b0, c3b1⟩ := zE c3; clear c3
  obtain rfl := Option.some.inj H
  obtain ⟨Ao4, co4, eo4⟩ := Kd.R_slice HO0.out
  subst eo4
  go_enter Try.func117, Try.ntmps117
  go_wp2_with (first | ((with_reducible refine gate_callee (f := 125) rfl ?_); refine zG (some 9) Try.func125 #[.slice Ao4 l0.length co4] ?_; (with_reducible refine (xttrim.calls k (fun k_ => some k_ = (.slice Ao4 l0.length co4 : Value).ownBlock) (.slice Ao4 l0.length co4) l0 t101 w0 _ ?side1 ?side2 A2.out).mono ?_); (case side1 => repeat (first | (with_reducible first | exact HB.out | apply below_alloc | apply pw_below_drewN | apply below_drew1) | exact HB.out)); (case side2 => exact Kd.R_tight rfl HO0.out); rintro e w5 ⟨v102, rfl, ho0, hb, hkp⟩; refine ⟨_, rfl, ?_⟩; have HO103 := zm (Kd.R_mono (ok' := fun k_ => (P0_ k_ ∨ w.heap.size ≤ k_)) ho0 (fun k_ hk_ => Or.elim hk_ (fun hs_ => (HO0.out.1 k_ (hs_).symm)) (fun hn_ => (.inr (Nat.le_trans (by first | exact HK.out.1 | exact (show Kept w _ (fun k_ => P0_ k_) from by repeat (first | (with_reducible first | exact HK.out | apply Kept.alloc | apply Kept.drewN | apply Kept.drew) | exact HK.out)).1) hn_))))); replace HK := zm (Kept.then_ (S := (fun k_ => P0_ k_)) (by repeat (first | (with_reducible first | exact HK.out | apply Kept.alloc | apply Kept.drewN | apply Kept.drew) | exact HK.out)) hkp (fun k_ hs_ => (fun e_ => (HO0.out.1 k_ e_.symm)) hs_)); replace HB := zm (hb); clear HO0; (try clear hkp); obtain ⟨Ao6, co6, eo6⟩ := Kd.R_slice HO103.out; subst eo6))
  go_ret
  exact ⟨zQ, zT, by repeat (first | (with_reducible first | exact HK.out | apply Kept.alloc | apply Kept.drewN | apply Kept.drew) | exact HK.out)⟩
 rw [if_neg c3] at H
 obtain ⟨c3b0, c3b1⟩ := zU c3
 have c3b2 : ¬ (t101 = []) := fun h_ => c3 (by rw [h_]; rfl)
 obtain ⟨ji7, hji7⟩ : ∃ j_ : Int, (wrap64 (8 * (t101.length : Int))) = j_ := ⟨_, rfl⟩
 first | rw [hji7] at H | simp only [hji7] at H
 (try rw [hji7] at A2)
 have hji7w : (IntKind.i64.wrap (8 * (t101.length : Int))) = ji7 := (i64_w _).trans hji7
 by_cases c8 : 0 ≤ (ji7)
 rotate_left
 ·rw [if_neg c8] at H
  exact absurd H (by simp)
 rw [if_pos c8] at H
 have c8b0 := eq_true c8; have c8b1 := decide_eq_true c8; clear c8
 by_cases c9 : (ji7 : Int).toNat ≤ 281474976710656
 rotate_left
 ·rw [if_neg c9] at H
  exact absurd H (by simp)
 rw [if_pos c9] at H
 have c9b0 := eq_true c9; have c9b1 := decide_eq_true c9; clear c9
 obtain ⟨y104, Ny104⟩ := zA ((List.replicate (ji7 : Int).toNat 0) : List Int); rw [← Ny104.out] at H
 have H' := zm H
 clear H
 obtain ⟨Ao10, co10, eo10⟩ := Kd.R_slice HO0.out
 subst eo10
 go_enter Try.func117, Try.ntmps117
 go_wp2_with (first | ((with_reducible refine gate_callee (f := 125) rfl ?_); refine zG (some 9) Try.func125 #[.slice Ao10 l0.length co10] ?_; (with_reducible refine (xttrim.calls k (fun k_ => some k_ = (.slice Ao10 l0.length co10 : Value).ownBlock) (.slice Ao10 l0.length co10) l0 t101 w0 _ ?side1 ?side2 A2.out).mono ?_); (case side1 => repeat (first | (with_reducible first | exact HB.out | apply below_alloc | apply pw_below_drewN | apply below_drew1) | exact HB.out)); (case side2 => exact Kd.R_tight rfl HO0.out); rintro e w11 ⟨v102, rfl, ho0, hb, hkp⟩; refine ⟨_, rfl, ?_⟩; have HO103 := zm (Kd.R_mono (ok' := fun k_ => (P0_ k_ ∨ w.heap.size ≤ k_)) ho0 (fun k_ hk_ => Or.elim hk_ (fun hs_ => (HO0.out.1 k_ (hs_).symm)) (fun hn_ => (.inr (Nat.le_trans (by first | exact HK.out.1 | exact (show Kept w _ (fun k_ => P0_ k_) from by repeat (first | (with_reducible first | exact HK.out | apply Kept.alloc | apply Kept.drewN | apply Kept.drew) | exact HK.out)).1) hn_))))); replace HK := zm (Kept.then_ (S := (fun k_ => P0_ k_)) (by repeat (first | (with_reducible first | exact HK.out | apply Kept.alloc | apply Kept.drewN | apply Kept.drew) | exact HK.out)) hkp (fun k_ hs_ => (fun e_ => (HO0.out.1 k_ e_.symm)) hs_)); replace HB := zm (hb); clear HO0; (try clear hkp); obtain ⟨Ao12, co12, eo12⟩ := Kd.R_slice HO103.out; subst eo12) | ((with_reducible refine gate_dst (N := 16) rfl ?_); refine Kd.R_make (Kd.int .u8) _ 5 rfl (N := 16) rfl 112 _ _ rfl ji7 rfl rfl Try.underlying112 (.int .u8 0) 1 info5 rfl (by decide) (by omega) 0 (ok := fun _ => True) (okp := fun _ => True) rfl (fun _ hk => hk) trivial zD (Nat.le_trans (Nat.mul_le_mul_right _ (zD : ji7.toNat ≤ 281474976710656)) (by omega)) (Below.refl _ _) (Nat.le_refl _) ?_; intro v105 w13 ho14 hb hg_ hnew_; clear hg_ hnew_; (first | rw [← Ny104.out] at ho14 | (simp only [Int.reduceToNat] at ho14; rw [← Ny104.out] at ho14)); replace HO103 := zRb HO103 hb; have HO106 := zm (Kd.R_lower (Kd.R_newM (M := fun k_ => (P0_ k_ ∨ w.heap.size ≤ k_)) ho14 (by first | exact HK.out.1 | exact (show Kept w _ (fun k_ => P0_ k_) from by repeat (first | (with_reducible first | exact HK.out | apply Kept.alloc | apply Kept.drewN | apply Kept.drew) | exact HK.out)).1) (fun k_ h_ => .inr h_)) (zS HB)); replace HK := zm (Kept.below (S := (fun k_ => P0_ k_)) (by repeat (first | (with_reducible first | exact HK.out | apply Kept.alloc | apply Kept.drewN | apply Kept.drew) | exact HK.out)) hb); replace HB := zBb HB hb; clear hb ho14))
 go_loopg [19] k (fun kq v19 w' => ∃ (x3_1 : List Int) (x19_1 : Int), v19 = .int .i64 x19_1 ∧ Aside0 (xtpack.l0 kq x3_1 t101 (t101.length : Int) x19_1 = some r) ∧ Aside0 (kq ≤ k) ∧ Aside0 (Kd.R (Kd.int .u8) 5 w' w0.heap.size (fun k_ => (P0_ k_ ∨ w.heap.size ≤ k_)) v105 x3_1) ∧ Aside0 (Kd.R (Kd.int .u64) 84 w' w0.heap.size (fun k_ => (P0_ k_ ∨ w.heap.size ≤ k_)) (.slice Ao12 t101.length co12) t101) ∧ Aside0 (Kept w w' (fun k_ => P0_ k_)) ∧ Aside0 (Below w0.heap.size w0 w'))
 case atStart => exact ⟨(y104), (0), zX, H', ⟨Nat.le_refl _⟩, ⟨zR (Kd.R_mono HO106.out (fun _ hk => hk.1))⟩, ⟨zR HO103.out⟩, ⟨by repeat (first | (with_reducible first | exact HK.out | apply Kept.alloc | apply Kept.drewN | apply Kept.drew) | exact HK.out)⟩, ⟨zT⟩⟩
 case round =>
  clear H'
  obtain ⟨x3_1, x19_1, rfl, HA, HK1, HO_3, HO_17, HK, HB⟩ := hrel
  cases gk with
  | zero => exact absurd HA.out (by simp [xtpack.l0])
  | succ k1 =>
   have H := HA.out
   clear HA
   simp only [xtpack.l0] at H
   by_cases c15 : x19_1 < (t101.length : Int)
   rotate_left
   ·rw [if_neg c15] at H
    have c15b0 := decide_eq_false c15; clear c15
    have H' := zm H
    clear H
    go_wp2
    go_loopg [7] k1 (fun kq v7 w' => ∃ (x7_2 : Int), v7 = .int .i64 x7_2 ∧ Aside0 (xtpack.l2 kq x3_1 x7_2 = some r) ∧ Aside0 (kq ≤ k1) ∧ Aside0 (Kd.R (Kd.int .u8) 5 w' w0.heap.size (fun k_ => (P0_ k_ ∨ w.heap.size ≤ k_)) v105 x3_1) ∧ Aside0 (Kept w w' (fun k_ => P0_ k_)) ∧ Aside0 (Below w0.heap.size w0 w'))
    case atStart => exact ⟨(0), zX, H', ⟨Nat.le_refl _⟩, ⟨zR HO_3.out⟩, ⟨by repeat (first | (with_reducible first | exact HK.out | apply Kept.alloc | apply Kept.drewN | apply Kept.drew) | exact HK.out)⟩, ⟨zT⟩⟩
    case round =>
     clear H'
     obtain ⟨x7_2, rfl, HA, HK2, HO_3, HK, HB⟩ := hrel
     cases gk with
     | zero => exact absurd HA.out (by simp [xtpack.l2])
     | succ k2 =>
      have H := HA.out
      clear HA
      simp only [xtpack.l2] at H
      by_cases c29 : 0 ≤ x7_2
      rotate_left
      ·rw [if_neg c29] at H
       exact absurd H (by simp)
      rw [if_pos c29] at H
      have c29b0 := decide_eq_true c29; clear c29
      by_cases c30 : x7_2 < (x3_1.length : Int)
      rotate_left
      ·rw [if_neg c30] at H
       exact absurd H (by simp)
      rw [if_pos c30] at H
      have c30b0 := decide_eq_true c30; clear c30
      by_cases c31 : (rd x3_1 x7_2) = 0
      ·rw [if_pos c31] at H
       obtain ⟨c31b0, c31b1⟩ := zE c31; clear c31
       have H' := zm H
       clear H
       obtain ⟨Ao32, co32, eo32⟩ := Kd.R_slice HO_3.out
       subst eo32
       obtain ⟨p109, q109, ad109, e109, hx109_0⟩ := zI ((Kd.R_reads' HO_3.out).2.2) (x7_2) zD zD
       cases e109
       go_wp2
       (first | go_roundg k2 | (simp only [show ∀ g_ : Nat, ({ block := g_, off := (ji7).toNat } : Addr) = ({ block := g_, off := 0 } : Addr).add (ji7).toNat from fun g_ => by simp [Addr.add]]; go_roundg k2))
       case measure => have := HK1.out; have := HK2.out; omega
       case rel => exact ⟨(wrap64 (x7_2 + 1)), zX, H', ⟨by have := HK1.out; have := HK2.out; omega⟩, ⟨zR HO_3.out⟩, ⟨by repeat (first | (with_reducible first | exact HK.out | apply Kept.alloc | apply Kept.drewN | apply Kept.drew) | exact HK.out)⟩, ⟨zT⟩⟩
      rw [if_neg c31] at H
      obtain ⟨c31b0, c31b1⟩ := zU c31
      have c33b0 := eq_true (zD : 0 ≤ x7_2)
      by_cases c34 : x7_2 ≤ (x3_1.length : Int)
      rotate_left
      ·rw [if_neg c34] at H
       exact absurd H (by simp)
      rw [if_pos c34] at H
      have c34b0 := eq_true c34; have c34b1 := decide_eq_true c34; clear c34
      obtain ⟨y110, Ny110⟩ := zA ((x3_1.drop (x7_2 : Int).toNat) : List Int); rw [← Ny110.out] at H
      obtain rfl := Option.some.inj H
      obtain ⟨Ao35, co35, eo35⟩ := Kd.R_slice HO_3.out
      subst eo35
      obtain ⟨p109, q109, ad109, e109, hx109_0⟩ := zI ((Kd.R_reads' HO_3.out).2.2) (x7_2) zD zD
      cases e109
      have q36 : (x7_2 : Int) ≤ ((x3_1.length : Int) : Int) := zD
      obtain ⟨i036, hi036, _, hsz36, _⟩ := info_parts info5
      have hroom36 : x3_1.length ≤ co35 := (Kd.R_reads' HO_3.out).2.1
      have hC36 : Kd.C (Kd.int .u8) _ (some ad109) x3_1.length x3_1 := (Kd.R_reads' HO_3.out).2.2
      have q036 : (0 : Int) ≤ (x7_2 : Int) := zD
      have hcut36 := cut_from (P := Try.prog) 112 5 .i64 Try.underlying112 hi036 1 hsz36 (some ad109) x3_1.length co35 x7_2 q036 q36
      have hr36 := Kd.C_drop (m := (x7_2 : Int).toNat) (c := co35) hC36 (by omega) hroom36
      obtain ⟨A36, hA36⟩ : ∃ A1, A1 = (if co35 = (x7_2 : Int).toNat then (some ad109) else ((some ad109) : Option Addr).map (·.add ((x7_2 : Int).toNat * 1))) := ⟨_, rfl⟩
      obtain ⟨c36, hc36⟩ : ∃ c1, c1 = co35 - (x7_2 : Int).toNat := ⟨_, rfl⟩
      have hy36 : y110.length = x3_1.length - (x7_2 : Int).toNat := (by rw [Ny110.out, List.length_drop] <;> omega)
      rw [show (x3_1).drop (x7_2 : Int).toNat = y110 from Ny110.out.symm] at hr36
      replace hr36 : Kd.C (Kd.int .u8) _ A36 y110.length y110 := (by rw [hA36]; exact hr36)
      rw [← hy36, ← hA36, ← hc36] at hcut36
      have HR113 := zm hr36
      have HC113 := zm (show y110.length ≤ c36 from by rw [hy36, hc36]; exact Nat.sub_le_sub_right hroom36 _)
      clear hr36 hC36 hroom36 hi036 hsz36 hc36
      have KY36 := zm hy36
      have KA36 := zm hA36
      clear hy36 hA36
      have KL36 := zm (show (x7_2 : Int).toNat ≤ x3_1.length from by omega)
      replace q36 := eq_true q36
      have hcv37 := Kd.C_string (P := Try.prog) (A := A36) (c := c36) Try.underlying112 Try.underlying5 Try.underlying51 (by repeat (first | (with_reducible exact HR113.out) | (with_reducible refine Kd.C_alloc ?_ _) | (with_reducible refine Kd.C_drewN ?_ _) | (with_reducible refine Kd.C_drew ?_) | exact HR113.out))
      go_wp2
      go_ret
      exact ⟨by first | rfl | (simp [errW_none, errW_some] <;> rfl) | (simp only [← hji7]; first | rfl | (simp [errW_none, errW_some] <;> rfl)) | (simp [*, errW_none, errW_some] <;> rfl), zT, by repeat (first | (with_reducible first | exact HK.out | apply Kept.alloc | apply Kept.drewN | apply Kept.drew) | exact HK.out)⟩
   rw [if_pos c15] at H
   have c15b0 := decide_eq_true c15; clear c15
   by_cases c16 : 0 ≤ x19_1
   rotate_left
   ·rw [if_neg c16] at H
    exact absurd H (by simp)
   rw [if_pos c16] at H
   have c16b0 := decide_eq_true c16; clear c16
   by_cases c17 : x19_1 < (t101.length : Int)
   rotate_left
   ·rw [if_neg c17] at H
    exact absurd H (by simp)
   rw [if_pos c17] at H
   have c17b0 := decide_eq_true c17; clear c17
   have H' := zm H
   clear H
   obtain ⟨p107, q107, ad107, e107, hx107_0⟩ := zI ((Kd.R_reads' HO_17.out).2.2) (x19_1) zD zD
   cases e107
   go_wp2
   go_loopg [24] k1 (fun kq v24 w' => ∃ (x3_2 : List Int) (x24_2 : Int), v24 = .int .i64 x24_2 ∧ Aside0 (xtpack.l1 kq x3_2 x19_1 (rd t101 x19_1) t101 (t101.length : Int) x19_1 x24_2 = some r) ∧ Aside0 (kq ≤ k1) ∧ Aside0 (Kd.R (Kd.int .u8) 5 w' w0.heap.size (fun k_ => (P0_ k_ ∨ w.heap.size ≤ k_)) v105 x3_2) ∧ Aside0 (Kd.R (Kd.int .u64) 84 w' w0.heap.size (fun k_ => (P0_ k_ ∨ w.heap.size ≤ k_)) (.slice (some ad107) t101.length co12) t101) ∧ Aside0 (Kept w w' (fun k_ => P0_ k_)) ∧ Aside0 (Below w0.heap.size w0 w'))
   case atStart => exact ⟨(x3_1), (0), zX, H', ⟨Nat.le_refl _⟩, ⟨zR HO_3.out⟩, ⟨zR HO_17.out⟩, ⟨by repeat (first | (with_reducible first | exact HK.out | apply Kept.alloc | apply Kept.drewN | apply Kept.drew) | exact HK.out)⟩, ⟨zT⟩⟩
   case round =>
    clear H'
    obtain ⟨x3_2, x24_2, rfl, HA, HK2, HO_3, HO_17, HK, HB⟩ := hrel
    cases gk with
    | zero => exact absurd HA.out (by simp [xtpack.l1])
    | succ k2 =>
     have H := HA.out
     clear HA
     simp only [xtpack.l1] at H
     by_cases c18 : x24_2 < 8
     rotate_left
     ·rw [if_neg c18] at H
      have c18b0 := decide_eq_false c18; clear c18
      have H' := zm H
      clear H
      go_wp2
      (first | go_roundg k2 | (simp only [show ∀ g_ : Nat, ({ block := g_, off := (ji7).toNat } : Addr) = ({ block := g_, off := 0 } : Addr).add (ji7).toNat from fun g_ => by simp [Addr.add]]; go_roundg k2))
      case measure => have := HK1.out; have := HK2.out; omega
      case rel => exact ⟨(x3_2), (wrap64 (x19_1 + 1)), zX, H', ⟨by have := HK1.out; have := HK2.out; omega⟩, ⟨zR HO_3.out⟩, ⟨zR HO_17.out⟩, ⟨by repeat (first | (with_reducible first | exact HK.out | apply Kept.alloc | apply Kept.drewN | apply Kept.drew) | exact HK.out)⟩, ⟨zT⟩⟩
     rw [if_pos c18] at H
     have c18b0 := decide_eq_true c18; clear c18
     obtain ⟨ji19, hji19⟩ : ∃ j_ : Int, (wrap64 (8 * x24_2)) = j_ := ⟨_, rfl⟩
     first | rw [hji19] at H | simp only [hji19] at H
     have hji19w : (IntKind.i64.wrap (8 * x24_2)) = ji19 := (i64_w _).trans hji19
     by_cases c20 : 0 ≤ (ji19)
     rotate_left
     ·rw [if_neg c20] at H
      exact absurd H (by simp)
     rw [if_pos c20] at H
     have c20b0 := eq_true c20; have c20b1 := decide_eq_true c20; clear c20
     obtain ⟨ji21, hji21⟩ : ∃ j_ : Int, (shr .u64 (rd t101 x19_1) (ji19)) = j_ := ⟨_, rfl⟩
     first | rw [hji21] at H | simp only [hji21] at H
     have hji21_ : ((rd t101 x19_1) / 2 ^ min (ji19).toNat 64) = ji21 := hji21
     have hji21z : (ji19) ≤ 64 → ((rd t101 x19_1) / 2 ^ (ji19).toNat) = ji21 := shr_small hji21
     obtain ⟨ji22, hji22⟩ : ∃ j_ : Int, (wrap64 ((wrap64 ((wrap64 ((x3_2.length : Int) - 1)) - (wrap64 (8 * x19_1)))) - x24_2)) = j_ := ⟨_, rfl⟩
     first | rw [hji22] at H | simp only [hji22] at H
     have hji22w : (IntKind.i64.wrap ((wrap64 ((wrap64 ((x3_2.length : Int) - 1)) - (wrap64 (8 * x19_1)))) - x24_2)) = ji22 := (i64_w _).trans hji22
     by_cases c23 : 0 ≤ (ji22)
     rotate_left
     ·rw [if_neg c23] at H
      exact absurd H (by simp)
     rw [if_pos c23] at H
     have c23b0 := decide_eq_true c23; clear c23
     by_cases c24 : (ji22) < (x3_2.length : Int)
     rotate_left
     ·rw [if_neg c24] at H
      exact absurd H (by simp)
     rw [if_pos c24] at H
     have c24b0 := decide_eq_true c24; clear c24
     obtain ⟨y108, Ny108⟩ := zA ((x3_2.set ((ji22) : Int).toNat ((ji21) % 256)) : List Int); rw [← Ny108.out] at H
     have H' := zm H
     clear H
     obtain ⟨Ao26, co26, eo26⟩ := Kd.R_slice HO_3.out
     subst eo26
     have p25 : 0 ≤ ((ji22) : Int) := zD
     have q25 : ((ji22) : Int) < ((x3_2.length : Int) : Int) := zD
     obtain ⟨go25, co25, eo25, gb25, gl25, cl25, HG25⟩ := Kd.R_form HO_3.out (by omega)
     (first | cases eo25 | (injection eo25 with ea_ en_ ec_; (first | subst ea_ | (injection ea_ with ea_; subst ea_)); subst ec_; clear en_))
     have GB25 := zm gb25
     have GG25 := zm HG25
     clear gb25 gl25 HG25
     have HMgo25 := zm (show (P0_ go25 ∨ w.heap.size ≤ go25) from (HO_3.out.1 _ rfl))
     obtain ⟨hx25_0, hf25_0⟩ := Kd.R_celln 0 HO_3.out ((ji22) : Int) p25 q25
     replace p25 := eq_true p25
     replace q25 := eq_true q25
     have HP27 := Kd.R_putg HO_3.out ((ji22) : Int) ((ji21) % 256)
     go_wp2_with (first | ((with_reducible refine gate_store (t := 5) (p := 41) rfl ?_); refine store_event (t := 5) (p := 41) (v := ?vo_w28) (w1 := (wr.setCell ⟨go25, ((ji22) : Int).toNat, none⟩ (.int .u8 ((ji21) % 256)))) ?hg ?ho ?hn ?hr ?_; (case ho => rfl); (case hg => rfl); (case hn => rfl); (case hr => go_simp <;> rfl); intro w28 hw; have hg : wr.grownBy w28 (some go25) := (by rw [hw]; exact HP27.2); have hp_ : Kd.R (Kd.int .u8) 5 w28 w0.heap.size (fun k_ => (P0_ k_ ∨ w.heap.size ≤ k_)) (.slice (some ⟨go25, 0, none⟩) x3_2.length co26) y108 := (by rw [hw, Ny108.out]; exact HP27.1); clear HP27; replace HO_17 := zm (Kd.R_over' (v := (.slice (some ⟨go25, 0, none⟩) x3_2.length co26)) (zR HO_17.out) (Kd.R_typed HO_3.out) (by decide) hg); replace HB := zm ((by rw [hw]; exact below_set (HB.out) GB25.out : Below w0.heap.size w0 w28)); replace HK := zm (Kept.of_grown (S := (fun k_ => P0_ k_)) hg (by repeat (first | (with_reducible first | exact HK.out | apply Kept.alloc | apply Kept.drewN | apply Kept.drew) | exact HK.out)) (fun k_ e_ => (HO_3.out.1 k_ e_))); replace HO_3 := zm (hp_); clear hg hw hp_))
     (first | go_roundg k2 | (simp only [show ∀ g_ : Nat, ({ block := g_, off := (ji7).toNat } : Addr) = ({ block := g_, off := 0 } : Addr).add (ji7).toNat from fun g_ => by simp [Addr.add]]; go_roundg k2))
     case measure => have := HK1.out; have := HK2.out; omega
     case rel => exact ⟨(y108), (wrap64 (x24_2 + 1)), zX, H', ⟨by have := HK1.out; have := HK2.out; omega⟩, ⟨zR HO_3.out⟩, ⟨zR HO_17.out⟩, ⟨by repeat (first | (with_reducible first | exact HK.out | apply Kept.alloc | apply Kept.drewN | apply Kept.drew) | exact HK.out)⟩, ⟨zT⟩⟩
def xtNatOf.f (k : Nat) (a0 : Int) : Option (ByteArray) := (xtpack.f k (([a0] : List Int))).bind fun t104 => (some t104)
theorem xtNatOf.mono : ∀ a0 k, LeO (xtNatOf.f k a0) (xtNatOf.f (k + 1) a0) := by
 intro a0 k
 unfold xtNatOf.f
 with_reducible repeat' first | exact xtpack.mono _ _ | exact LeO.refl _ | exact LeO.none _ | refine LeO.ite ?_ ?_ | refine LeO.bind ?_ (fun _ => ?_)
theorem xtNatOf.calls (k : Nat) (a0 : Int) (r : ByteArray) (w : World) (h : xtNatOf.f k a0 = some r) :
  Calls Try.prog 103 #[.int .u64 a0] w fun e w' => e = .returned (.string r) ∧ Below w.heap.size w w' := by
 have HB := zm (Below.refl w.heap.size w)
 have H := h; clear h; unfold xtNatOf.f at H
 obtain ⟨y101, Ny101⟩ := zA ((([a0] : List Int)) : List Int); rw [← Ny101.out] at H
 obtain ⟨t104, A2, H⟩ := zO H
 obtain rfl := Option.some.inj H
 go_enter Try.func103, Try.ntmps103
 go_wp2_with (first | ((with_reducible refine gate_dst (N := 4) rfl ?_); refine Kd.R_lit (Kd.int .u64) _ 84 ?hg (N := 4) ?hd (xs := ([a0] : List Int)) (inner := [.int .u64 a0]) (ok := fun _ => True) (okp := fun _ => True) ?hr ?hp (fun _ hk => hk) trivial (Below.refl _ _) (Nat.le_refl _) (by simp) ?_; (case hd => rfl); (case hg => rfl); (case hr => go_simp <;> rfl); (case hp => exact (Reps.one (show Kd.M (Kd.int .u64) _ _ _ a0 [.int .u64 a0] from rfl) (Reps.none _ _))); intro v102 w3 ho4 hb hg_ hnew_; clear hg_ hnew_; (first | rw [← Ny101.out] at ho4 | (simp only [Int.reduceToNat] at ho4; rw [← Ny101.out] at ho4)); have HO103 := zm (Kd.R_lower ho4 (zS HB)); replace HB := zBb HB hb; clear hb ho4; obtain ⟨Ao5, co5, eo5⟩ := Kd.R_slice HO103.out; subst eo5) | ((with_reducible refine gate_callee (f := 117) rfl ?_); refine zG (some 5) Try.func117 #[.slice Ao5 y101.length co5] ?_; (with_reducible refine (xtpack.calls k (fun k_ => some k_ = (.slice Ao5 y101.length co5 : Value).ownBlock) (.slice Ao5 y101.length co5) y101 t104 w _ ?side1 ?side2 A2.out).mono ?_); (case side1 => repeat (first | (with_reducible first | exact HB.out | apply below_alloc | apply pw_below_drewN | apply below_drew1) | exact HB.out)); (case side2 => exact Kd.R_tight rfl HO103.out); rintro e w6 ⟨rfl, hb, hkp⟩; refine ⟨_, rfl, ?_⟩; replace HB := zm (hb); clear HO103; (try clear hkp)))
 go_ret
 exact ⟨zQ, zT⟩
def gFAdd.f (k : Nat) (a0_0 : Int) (l0_1 : List Int) (l1 : List Int) (l2 : List Int) : Option (List Int) := (fp_Add.f k a0_0 l1 l2).bind fun t102 => (some t102)
theorem gFAdd.mono : ∀ a0 a1 a2 a3 k, LeO (gFAdd.f k a0 a1 a2 a3) (gFAdd.f (k + 1) a0 a1 a2 a3) := by
 intro a0 a1 a2 a3 k
 unfold gFAdd.f
 with_reducible repeat' first | exact fp_Add.mono _ _ _ _ | exact LeO.refl _ | exact LeO.none _ | refine LeO.ite ?_ ?_ | refine LeO.bind ?_ (fun _ => ?_)
theorem gFAdd.calls (k : Nat) (a0_0 : Int) (A0_1 : Option Addr) (c0_1 : Nat) (l0_1 : List Int) (A1 : Option Addr) (c1 : Nat) (l1 : List Int) (A2 : Option Addr) (c2 : Nat) (l2 : List Int) (r : List Int) (w : World) (hr0_1 : Kd.C (Kd.int .i64) w A0_1 l0_1.length l0_1) (hc0_1 : l0_1.length ≤ c0_1) (hr1 : Kd.C (Kd.int .i64) w A1 l1.length l1) (hc1 : l1.length ≤ c1) (hr2 : Kd.C (Kd.int .i64) w A2 l2.length l2) (hc2 : l2.length ≤ c2) (h : gFAdd.f k a0_0 l0_1 l1 l2 = some r) :
  Calls Try.prog 76 #[.agg #[.int .i64 a0_0, .slice A0_1 l0_1.length c0_1], .slice A1 l1.length c1, .slice A2 l2.length c2] w fun e w' => ∃ v0_ : Value, e = .returned (v0_) ∧ Kd.V (Kd.int .i64) 3 w' w.heap.size (fun k_ => (w.heap.size ≤ k_)) v0_ r ∧ Below w.heap.size w w' := by
 have hu68 := Try.underlying68
 have HR0_1 := zm hr0_1
 have HC0_1 := zm hc0_1
 clear hr0_1 hc0_1
 have HR1 := zm hr1
 have HC1 := zm hc1
 clear hr1 hc1
 have HR2 := zm hr2
 have HC2 := zm hc2
 clear hr2 hc2
 have HB := zm (Below.refl w.heap.size w)
 have H := h; clear h; unfold gFAdd.f at H
 obtain ⟨t102, A4, H⟩ := zO H
 obtain rfl := Option.some.inj H
 go_enter Try.func76, Try.ntmps76
 go_wp2_with (first | ((with_reducible refine gate_dst (N := 3) rfl ?_); refine zb 3 #[.int .i64 a0_0, .slice A0_1 l0_1.length c0_1] 68 ?_; intro gb101 hg w5 hbox hb; have BK101 := zm (hbox); have GW101 := zg HB hg; have GE101 := GW101; replace HB := zBb HB hb; clear hb hbox hg; obtain ⟨hcz6_0, hcz6_1, hfz6_0, hfz6_1⟩ := zf2 BK101) | ((with_reducible refine gate_callee (f := 60) rfl ?_); refine zG (some 12) Try.func60 #[.int .i64 a0_0, .slice A1 l1.length c1, .slice A2 l2.length c2] ?_; (with_reducible refine (fp_Add.calls k a0_0 _ _ l1 _ _ l2 t102 _ (zC (Kd.C_below HR1.out HB.out)) HC1.out (zC (Kd.C_below HR2.out HB.out)) HC2.out A4.out).mono ?_); rintro e w7 ⟨v103, rfl, ho0, hb⟩; refine ⟨_, rfl, ?_⟩; have HO104 := zWV (fun k_ => (w.heap.size ≤ k_) ∧ k_ ≠ gb101) ho0 HB (fun k_ hk_ => ⟨(Nat.le_trans (zS HB) hk_), (Kd.freshB (zK BK101.out) k_ hk_)⟩); replace BK101 := zKb BK101 hb; replace HB := zBb HB hb))
 go_ret
 exact ⟨_, zQ, zV (Kd.V_mono HO104.out (fun _ hk => hk.1)), zT⟩
def gFPowNat.f (k : Nat) (a0_0 : Int) (l0_1 : List Int) (l1 : List Int) (a2 : ByteArray) : Option (List Int) := (fp_PowMod.f k a0_0 l1 a2 l0_1).bind fun t102 => (some t102)
theorem gFPowNat.mono : ∀ a0 a1 a2 a3 k, LeO (gFPowNat.f k a0 a1 a2 a3) (gFPowNat.f (k + 1) a0 a1 a2 a3) := by
 intro a0 a1 a2 a3 k
 unfold gFPowNat.f
 with_reducible repeat' first | exact fp_PowMod.mono _ _ _ _ _ | exact LeO.refl _ | exact LeO.none _ | refine LeO.ite ?_ ?_ | refine LeO.bind ?_ (fun _ => ?_)
theorem gFPowNat.calls (k : Nat) (a0_0 : Int) (A0_1 : Option Addr) (c0_1 : Nat) (l0_1 : List Int) (A1 : Option Addr) (c1 : Nat) (l1 : List Int) (a2 : ByteArray) (r : List Int) (w : World) (hr0_1 : Kd.C (Kd.int .i64) w A0_1 l0_1.length l0_1) (hc0_1 : l0_1.length ≤ c0_1) (hr1 : Kd.C (Kd.int .i64) w A1 l1.length l1) (hc1 : l1.length ≤ c1) (h : gFPowNat.f k a0_0 l0_1 l1 a2 = some r) :
  Calls Try.prog 69 #[.agg #[.int .i64 a0_0, .slice A0_1 l0_1.length c0_1], .slice A1 l1.length c1, .string a2] w fun e w' => ∃ v0_ : Value, e = .returned (v0_) ∧ Kd.V (Kd.int .i64) 3 w' w.heap.size (fun k_ => (w.heap.size ≤ k_)) v0_ r ∧ Below w.heap.size w w' := by
 have hu68 := Try.underlying68
 have HR0_1 := zm hr0_1
 have HC0_1 := zm hc0_1
 clear hr0_1 hc0_1
 have HR1 := zm hr1
 have HC1 := zm hc1
 clear hr1 hc1
 have HB := zm (Below.refl w.heap.size w)
 have H := h; clear h; unfold gFPowNat.f at H
 obtain ⟨t102, A4, H⟩ := zO H
 obtain rfl := Option.some.inj H
 go_enter Try.func69, Try.ntmps69
 go_wp2_with (first | ((with_reducible refine gate_dst (N := 3) rfl ?_); refine zb 3 #[.int .i64 a0_0, .slice A0_1 l0_1.length c0_1] 68 ?_; intro gb101 hg w5 hbox hb; have BK101 := zm (hbox); have GW101 := zg HB hg; have GE101 := GW101; replace HB := zBb HB hb; clear hb hbox hg; obtain ⟨hcz6_0, hcz6_1, hfz6_0, hfz6_1⟩ := zf2 BK101) | ((with_reducible refine gate_callee (f := 99) rfl ?_); refine zG (some 15) Try.func99 #[.int .i64 a0_0, .slice A1 l1.length c1, .string a2, .slice A0_1 l0_1.length c0_1] ?_; (with_reducible refine (fp_PowMod.calls k a0_0 _ _ l1 a2 _ _ l0_1 t102 _ (zC (Kd.C_below HR1.out HB.out)) HC1.out (zC (Kd.C_below HR0_1.out HB.out)) HC0_1.out A4.out).mono ?_); rintro e w7 ⟨v103, rfl, ho0, hb⟩; refine ⟨_, rfl, ?_⟩; have HO104 := zWV (fun k_ => (w.heap.size ≤ k_) ∧ k_ ≠ gb101) ho0 HB (fun k_ hk_ => ⟨(Nat.le_trans (zS HB) hk_), (Kd.freshB (zK BK101.out) k_ hk_)⟩); replace BK101 := zKb BK101 hb; replace HB := zBb HB hb))
 go_ret
 exact ⟨_, zQ, zV (Kd.V_mono HO104.out (fun _ hk => hk.1)), zT⟩
def gFFrobenius.f (k : Nat) (a0_0 : Int) (l0_1 : List Int) (l1 : List Int) : Option (List Int) := (xtNatOf.f k (IntKind.u64.wrap (a0_0))).bind fun t102 => ((gFPowNat.f k a0_0 l0_1 l1 t102).bind fun t103 => (some t103))
theorem gFFrobenius.mono : ∀ a0 a1 a2 k, LeO (gFFrobenius.f k a0 a1 a2) (gFFrobenius.f (k + 1) a0 a1 a2) := by
 intro a0 a1 a2 k
 unfold gFFrobenius.f
 with_reducible repeat' first | exact xtNatOf.mono _ _ | exact gFPowNat.mono _ _ _ _ _ | exact LeO.refl _ | exact LeO.none _ | refine LeO.ite ?_ ?_ | refine LeO.bind ?_ (fun _ => ?_)
def gFFrobenius.T1 : Bool × List (List Nat × List Nat) := (true, [([], []), ([], []), ([], []), ([2], [2]), ([3], [3]), ([4], [4]), ([5], [5]), ([0, 1, 6, 6], [0, 1, 6]), ([7, 7, 0, 1, 2, 3, 4, 5, 6, 7], [7])])
def gFFrobenius.B1 : List Nat := [0, 0, 0, 4, 12, 28, 60, 127, 255]
theorem gFFrobenius.tab1 : rtab .any (opsOf Try.f77 1) = gFFrobenius.T1 := by kernel_rfl
theorem gFFrobenius.bits1 : waitsOk gFFrobenius.T1.2 gFFrobenius.B1 = true := by kernel_rfl
theorem gFFrobenius.calls (k : Nat) (a0_0 : Int) (A0_1 : Option Addr) (c0_1 : Nat) (l0_1 : List Int) (A1 : Option Addr) (c1 : Nat) (l1 : List Int) (r : List Int) (w : World) (hr0_1 : Kd.C (Kd.int .i64) w A0_1 l0_1.length l0_1) (hc0_1 : l0_1.length ≤ c0_1) (hr1 : Kd.C (Kd.int .i64) w A1 l1.length l1) (hc1 : l1.length ≤ c1) (h : gFFrobenius.f k a0_0 l0_1 l1 = some r) :
  Calls Try.prog 77 #[.agg #[.int .i64 a0_0, .slice A0_1 l0_1.length c0_1], .slice A1 l1.length c1] w fun e w' => ∃ v0_ : Value, e = .returned (v0_) ∧ Kd.V (Kd.int .i64) 3 w' w.heap.size (fun k_ => (w.heap.size ≤ k_)) v0_ r ∧ Below w.heap.size w w' := by
 have hu68 := Try.underlying68
 have HR0_1 := zm hr0_1
 have HC0_1 := zm hc0_1
 clear hr0_1 hc0_1
 have HR1 := zm hr1
 have HC1 := zm hc1
 clear hr1 hc1
 have HB := zm (Below.refl w.heap.size w)
 have H := h; clear h; unfold gFFrobenius.f at H
 obtain ⟨t102, A3, H⟩ := zO H
 obtain ⟨t103, A4, H⟩ := zO H
 obtain rfl := Option.some.inj H
 go_enter Try.func77, Try.ntmps77
 try go_wp2_with (first | ((with_reducible refine gate_dst (N := 2) rfl ?_); refine zb 2 #[.int .i64 a0_0, .slice A0_1 l0_1.length c0_1] 68 ?_; intro gb101 hg w5 hbox hb; have BK101 := zm (hbox); have GW101 := zg HB hg; have GE101 := GW101; replace HB := zBb HB hb; clear hb hbox hg))
 replace BK101 := zm (blk_drew BK101.out)
 replace HB := zm (below_drew1 HB.out)
 refine start_ (n := 9) (S := fun w' => w'.cell? ⟨gb101, 0, none⟩ = some (.int .i64 a0_0) ∧ w'.cell? ⟨gb101, 1, none⟩ = some (.slice A0_1 l0_1.length c0_1)) (ds := []) #[false, false, false, false, false, false, false, false, false] (by kernel_rfl) rfl rfl ⟨(blk_cell BK101.out 0).trans rfl, (blk_cell BK101.out 1).trans rfl⟩ (fun hHeld => ?_); refine with_tabW gFFrobenius.tab1 gFFrobenius.bits1 (fun HT_ HW_ => ?_)
 generalize w5.drew = w6 at BK101 HB hHeld ⊢
 refine zP 1 6 ?_; refine zP 2 7 ?_; refine zP 3 8 ?_
 refine take_ (i := 0) (N := some 5) (v := ?_) (a' := ?_) #[true, true, true, true, false, false, false, false, false] rfl rfl (take_ofW HT_.out HW_.out (by kernel_rfl)) (fun _ _ _ h => h) (Or.inl ⟨by rfl, ?_⟩) hHeld ?_ ?_
 rotate_left
 ·rintro w' ⟨s0, s1⟩
  go_simp
  with_reducible rfl
 rotate_left
 ·simp only [Act.put, List.setIfInBounds_toArray, List.set_cons_zero, List.set_cons_succ, i64_w, i32_w]
  rfl
 refine take_ (i := 4) (N := some 9) (v := ?_) (a' := ?_) #[true, true, true, true, true, false, false, false, false] rfl rfl (take_ofW HT_.out HW_.out (by kernel_rfl)) (fun _ _ _ h => h) (Or.inl ⟨by rfl, ?_⟩) hHeld ?_ ?_
 rotate_left
 ·rintro w' ⟨s0, s1⟩
  go_simp
  with_reducible rfl
 rotate_left
 ·simp only [Act.put, List.setIfInBounds_toArray, List.set_cons_zero, List.set_cons_succ, i64_w, i32_w]
  rfl
 refine zP 5 10 ?_
 refine one_ (i := 6) (N := some 11) #[true, true, true, true, true, true, true, false, false] rfl rfl (one_of HT_.out (by kernel_rfl)) (by decide) (fun K hK => ?_)
 refine goes_ Try.func103 (by kernel_rfl) rfl #[.int .u64 (IntKind.u64.wrap (a0_0))] (by rfl) rfl rfl (by (try simp only [List.map_toArray, List.map_cons, List.map_nil]); first | done | rfl | (simp only [List.length_drop, List.length_take]; rfl)) ?_
 with_reducible refine (xtNatOf.calls k (IntKind.u64.wrap (a0_0)) t102 _ A3.out).mono ?_
 rintro e w7 ⟨rfl, hb⟩
 refine ⟨_, rfl, ?_⟩
 replace BK101 := zKb BK101 hb
 replace HB := zBb HB hb
 (try clear hb)
 (try clear hb2)
 (try clear hk)
 (try clear hi)
 refine hK.out _ _ ⟨(blk_cell BK101.out 0).trans rfl, (blk_cell BK101.out 1).trans rfl⟩ (fun hHeld => ?_)
 clear hK K
 refine norm_ (a' := ?_) ?_ ?_
 rotate_left
 ·show Act.put _ (some 11) _ = _
  simp only [Act.put, List.setIfInBounds_toArray, List.set_cons_zero, List.set_cons_succ, i64_w, i32_w]
  rfl
 refine one_ (i := 7) (N := some 12) #[true, true, true, true, true, true, true, true, false] rfl rfl (one_of HT_.out (by kernel_rfl)) (by decide) (fun K hK => ?_)
 refine goes_ Try.func69 (by kernel_rfl) rfl #[.agg #[.int .i64 a0_0, .slice A0_1 l0_1.length c0_1], .slice A1 l1.length c1, .string t102] (by rfl) rfl rfl (by (try simp only [List.map_toArray, List.map_cons, List.map_nil]); first | done | rfl | (simp only [List.length_drop, List.length_take]; rfl)) ?_
 with_reducible refine (gFPowNat.calls k a0_0 _ _ l0_1 _ _ l1 t102 t103 _ ?side1 ?side2 ?side3 ?side4 A4.out).mono ?_
 (case side1 => exact zC (Kd.C_below HR0_1.out HB.out))
 (case side2 => exact HC0_1.out)
 (case side3 => exact zC (Kd.C_below HR1.out HB.out))
 (case side4 => exact HC1.out)
 rintro e w8 ⟨v104, rfl, ho0, hb⟩
 refine ⟨_, rfl, ?_⟩
 have HO105 := zm (Kd.V_lower (Kd.V_mono (ok' := fun k_ => (w.heap.size ≤ k_) ∧ k_ ≠ gb101) ho0 (fun k_ hk_ => ⟨(Nat.le_trans (zS HB) hk_), (Kd.freshB (zK BK101.out) k_ hk_)⟩)) (zS HB))
 replace BK101 := zKb BK101 hb
 replace HB := zBb HB hb
 (try clear hb)
 (try clear hb2)
 (try clear hk)
 (try clear hi)
 (try clear ho0)
 refine hK.out _ _ ⟨(blk_cell BK101.out 0).trans rfl, (blk_cell BK101.out 1).trans rfl⟩ (fun hHeld => ?_)
 clear hK K
 refine norm_ (a' := ?_) ?_ ?_
 rotate_left
 ·show Act.put _ (some 12) _ = _
  simp only [Act.put, List.setIfInBounds_toArray, List.set_cons_zero, List.set_cons_succ, i64_w, i32_w]
  rfl
 refine zP 8 4 ?_
 refine done_ (done_of HT_.out (by kernel_rfl)) ?_
 try go_wp2
 go_ret
 exact ⟨_, zQ, zV (Kd.V_mono HO105.out (fun _ hk => hk.1)), zT⟩
def api_ModPoly_int_78.l0 : Nat → List Int → List Int → Int → Int → Option (Bool)
 | 0, _, _, _, _ => none
 | k + 1, x0, x1, x12, x13 => if x13 < x12 then (if 0 ≤ x13 then (if x13 < (x0.length : Int) then (if x13 < (x1.length : Int) then (if (rd x0 x13) = (rd x1 x13) then (api_ModPoly_int_78.l0 k x0 x1 x12 (wrap64 (x13 + 1))) else (some false)) else (none)) else (none)) else (none)) else (some true)
def api_ModPoly_int_78.f (k : Nat) (l0 : List Int) (l1 : List Int) : Option (Bool) := if (l0.length : Int) = (l1.length : Int) then (api_ModPoly_int_78.l0 k l0 l1 (l0.length : Int) 0) else (some false)
theorem api_ModPoly_int_78.mono_l : ∀ k, (∀ y0 y1 y2 y3, LeO (api_ModPoly_int_78.l0 k y0 y1 y2 y3) (api_ModPoly_int_78.l0 (k + 1) y0 y1 y2 y3))
 | 0 => fun _ _ _ _ r h => by simp [api_ModPoly_int_78.l0] at h
 | k + 1 => by
  have ih0 := api_ModPoly_int_78.mono_l k
  intro y0 y1 y2 y3
  unfold api_ModPoly_int_78.l0
  with_reducible repeat' first | exact ih0 _ _ _ _ | exact LeO.refl _ | exact LeO.none _ | refine LeO.ite ?_ ?_ | refine LeO.bind ?_ (fun _ => ?_)
theorem api_ModPoly_int_78.mono : ∀ a0 a1 k, LeO (api_ModPoly_int_78.f k a0 a1) (api_ModPoly_int_78.f (k + 1) a0 a1) := by
 intro a0 a1 k
 have ih0 := api_ModPoly_int_78.mono_l k
 unfold api_ModPoly_int_78.f
 with_reducible repeat' first | exact ih0 _ _ _ _ | exact LeO.refl _ | exact LeO.none _ | refine LeO.ite ?_ ?_ | refine LeO.bind ?_ (fun _ => ?_)
theorem api_ModPoly_int_78.calls (k : Nat) (A0 : Option Addr) (c0 : Nat) (l0 : List Int) (A1 : Option Addr) (c1 : Nat) (l1 : List Int) (r : Bool) (w : World) (hr0 : Kd.C (Kd.int .i64) w A0 l0.length l0) (hc0 : l0.length ≤ c0) (hr1 : Kd.C (Kd.int .i64) w A1 l1.length l1) (hc1 : l1.length ≤ c1) (h : api_ModPoly_int_78.f k l0 l1 = some r) :
  Calls Try.prog 78 #[.slice A0 l0.length c0, .slice A1 l1.length c1] w fun e w' => e = .returned (.bool r) ∧ Drawn0 w w' := by
 have HR0 := zm hr0
 have HC0 := zm hc0
 clear hr0 hc0
 have HR1 := zm hr1
 have HC1 := zm hc1
 clear hr1 hc1
 have H := h; clear h; unfold api_ModPoly_int_78.f at H
 by_cases c3 : (l0.length : Int) = (l1.length : Int)
 rotate_left
 ·rw [if_neg c3] at H
  obtain ⟨c3b0, c3b1⟩ := zU c3
  have c3b2 : (l0.length == l1.length) = false := by first | simpa using c3 | (simp at c3 ⊢; omega)
  obtain rfl := Option.some.inj H
  go_enter Try.func78, Try.ntmps78
  go_wp2
  repeat (go_quiet (fail); try go_wp2)
  go_ret
  exact ⟨by first | rfl | (simp; done) | (simp [*]; done), by repeat (first | exact Drawn0.refl _ | apply Drawn0.step)⟩
 rw [if_pos c3] at H
 obtain ⟨c3b0, c3b1⟩ := zE c3
 have c3b2 : (l0.length == l1.length) = true := by first | simpa using c3 | (simp at c3 ⊢; omega)
 clear c3
 have H' := zm H
 clear H
 go_enter Try.func78, Try.ntmps78
 go_wp2
 repeat (go_quiet (fail); try go_wp2)
 go_loopg [13] k (fun kq v13 w' => ∃ (x13_1 : Int), v13 = .int .i64 x13_1 ∧ Aside0 (api_ModPoly_int_78.l0 kq l0 l1 (l0.length : Int) x13_1 = some r) ∧ Aside0 (kq ≤ k) ∧ Drawn0 w w')
 case atStart => exact ⟨(0), zX, H', ⟨Nat.le_refl _⟩, by repeat (first | exact Drawn0.refl _ | apply Drawn0.step)⟩
 case round =>
  clear H'
  obtain ⟨x13_1, rfl, HA, HK1, ⟨m1, rfl⟩⟩ := hrel
  cases gk with
  | zero => exact absurd HA.out (by simp [api_ModPoly_int_78.l0])
  | succ k1 =>
   have H := HA.out
   clear HA
   simp only [api_ModPoly_int_78.l0] at H
   by_cases c4 : x13_1 < (l0.length : Int)
   rotate_left
   ·rw [if_neg c4] at H
    have c4b0 := decide_eq_false c4; clear c4
    obtain rfl := Option.some.inj H
    go_wp2
    repeat (go_quiet (fail); try go_wp2)
    go_ret
    exact ⟨by first | rfl | (simp; done) | (simp [*]; done), by repeat (first | exact Drawn0.refl _ | apply Drawn0.step)⟩
   rw [if_pos c4] at H
   have c4b0 := decide_eq_true c4; clear c4
   by_cases c5 : 0 ≤ x13_1
   rotate_left
   ·rw [if_neg c5] at H
    exact absurd H (by simp)
   rw [if_pos c5] at H
   have c5b0 := decide_eq_true c5; clear c5
   by_cases c6 : x13_1 < (l0.length : Int)
   rotate_left
   ·rw [if_neg c6] at H
    exact absurd H (by simp)
   rw [if_pos c6] at H
   have c6b0 := decide_eq_true c6; clear c6
   by_cases c7 : x13_1 < (l1.length : Int)
   rotate_left
   ·rw [if_neg c7] at H
    exact absurd H (by simp)
   rw [if_pos c7] at H
   have c7b0 := decide_eq_true c7; clear c7
   by_cases c8 : (rd l0 x13_1) = (rd l1 x13_1)
   rotate_left
   ·rw [if_neg c8] at H
    obtain ⟨c8b0, c8b1⟩ := zU c8
    obtain rfl := Option.some.inj H
    obtain ⟨p101, q101, ad101, e101, hx101_0⟩ := zI (HR0.out) (x13_1) zD zD
    cases e101
    obtain ⟨p102, q102, ad102, e102, hx102_0⟩ := zI (HR1.out) (x13_1) zD zD
    cases e102
    go_wp2
    repeat (go_quiet (fail); try go_wp2)
    go_ret
    exact ⟨by first | rfl | (simp; done) | (simp [*]; done), by repeat (first | exact Drawn0.refl _ | apply Drawn0.step)⟩
   rw [if_pos c8] at H
   obtain ⟨c8b0, c8b1⟩ := zE c8; clear c8
   have H' := zm H
   clear H
   obtain ⟨p101, q101, ad101, e101, hx101_0⟩ := zI (HR0.out) (x13_1) zD zD
   cases e101
   obtain ⟨p102, q102, ad102, e102, hx102_0⟩ := zI (HR1.out) (x13_1) zD zD
   cases e102
   go_wp2
   repeat (go_quiet (fail); try go_wp2)
   go_roundg k1
   case measure => have := HK1.out; omega
   case rel => exact ⟨(wrap64 (x13_1 + 1)), zX, H', ⟨by have := HK1.out; omega⟩, by repeat (first | exact Drawn0.refl _ | apply Drawn0.step)⟩
mutual
def fi_MinPoly.l0 : Nat → List Int → List (List Int) → List Int → Int → List Int → Int → List Int → Option (List Int × Int)
 | 0, _, _, _, _, _, _, _ => none
 | k + 1, x1, x8, x9, x102000, x102001, x107000, x107001 => (fp_Scale.f k x102000 x9 (wrap64 (x102000 - 1))).bind fun t113 => (if 0 ≤ (wrap64 ((x8.length : Int) + 1)) then (if (wrap64 ((x8.length : Int) + 1) : Int).toNat ≤ 11728124029610 then (fi_MinPoly.l1 k x1 x9 t113 (List.replicate (wrap64 ((x8.length : Int) + 1) : Int).toNat []) x8 (x8.length : Int) 0 x102000 x102001 x107000 x107001) else (none)) else (none))
def fi_MinPoly.l1 : Nat → List Int → List Int → List Int → List (List Int) → List (List Int) → Int → Int → Int → List Int → Int → List Int → Option (List Int × Int)
 | 0, _, _, _, _, _, _, _, _, _, _, _ => none
 | k + 1, x1, x9, x10, x11, x42, x43, x44, x102000, x102001, x107000, x107001 => if x44 < x43 then (if 0 ≤ x44 then (if x44 < (x42.length : Int) then (if 0 ≤ (wrap64 (x44 + 1)) then (if (wrap64 (x44 + 1)) < (x11.length : Int) then ((gFAdd.f k x107000 x107001 (rd_L1 x11 (wrap64 (x44 + 1))) (rd_L1 x42 x44)).bind fun t121 => ((some (x11.set ((wrap64 (x44 + 1)) : Int).toNat t121 : List (List Int))).bind fun y124 => (if x44 < (x11.length : Int) then ((gFMul.f k x107000 x107001 (rd_L1 x42 x44) x10).bind fun t126 => ((gFAdd.f k x107000 x107001 (rd_L1 y124 x44) t126).bind fun t129 => (fi_MinPoly.l1 k x1 x9 x10 (y124.set (x44 : Int).toNat t129) x42 x43 (wrap64 (x44 + 1)) x102000 x102001 x107000 x107001))) else (none)))) else (none)) else (none)) else (none)) else (none)) else ((gFFrobenius.f k x107000 x107001 x9).bind fun t133 => ((api_ModPoly_int_78.f k t133 x1).bind fun t136 => (if t136 = true then (fi_MinPoly.l2 k ([] : List Int) x11 (x11.length : Int) 0) else (fi_MinPoly.l0 k x1 x11 t133 x102000 x102001 x107000 x107001))))
def fi_MinPoly.l2 : Nat → List Int → List (List Int) → Int → Int → Option (List Int × Int)
 | 0, _, _, _, _ => none
 | k + 1, x14, x82, x83, x84 => if x84 < x83 then (if 0 ≤ x84 then (if x84 < (x82.length : Int) then (if ((rd_L1 x82 x84).length : Int) > 0 then (if 0 < ((rd_L1 x82 x84).length : Int) then (if x14.length < 17592186044416 then (fi_MinPoly.l2 k (x14 ++ [rd (rd_L1 x82 x84) 0]) x82 x83 (wrap64 (x84 + 1))) else (none)) else (none)) else (if x14.length < 17592186044416 then (fi_MinPoly.l2 k (x14 ++ [0]) x82 x83 (wrap64 (x84 + 1))) else (none))) else (none)) else (none)) else (some (x14, 0))
end
def fi_MinPoly.f (k : Nat) (a0_0 : Int) (l0_1 : List Int) (l1 : List Int) : Option (List Int × Int) := (fi_check.f k a0_0 l0_1 (([l1] : List (List Int)))).bind fun t105 => (if t105 = 0 then ((gFOne.f a0_0 l0_1).bind fun t107 => (fi_MinPoly.l0 k l1 (([t107] : List (List Int))) l1 a0_0 l0_1 a0_0 l0_1)) else (some (([] : List Int), t105)))
theorem fi_MinPoly.mono_l : ∀ k, (∀ y0 y1 y2 y3 y4 y5 y6, LeO (fi_MinPoly.l0 k y0 y1 y2 y3 y4 y5 y6) (fi_MinPoly.l0 (k + 1) y0 y1 y2 y3 y4 y5 y6)) ∧ (∀ y0 y1 y2 y3 y4 y5 y6 y7 y8 y9 y10, LeO (fi_MinPoly.l1 k y0 y1 y2 y3 y4 y5 y6 y7 y8 y9 y10) (fi_MinPoly.l1 (k + 1) y0 y1 y2 y3 y4 y5 y6 y7 y8 y9 y10)) ∧ (∀ y0 y1 y2 y3, LeO (fi_MinPoly.l2 k y0 y1 y2 y3) (fi_MinPoly.l2 (k + 1) y0 y1 y2 y3))
 | 0 => ⟨fun _ _ _ _ _ _ _ r h => by simp [fi_MinPoly.l0] at h, fun _ _ _ _ _ _ _ _ _ _ _ r h => by simp [fi_MinPoly.l1] at h, fun _ _ _ _ r h => by simp [fi_MinPoly.l2] at h⟩
 | k + 1 => by
  obtain ⟨ih0, ih1, ih2⟩ := fi_MinPoly.mono_l k
  refine ⟨?_, ?_, ?_⟩
  ·intro y0 y1 y2 y3 y4 y5 y6
   unfold fi_MinPoly.l0
   with_reducible repeat' first | exact ih0 _ _ _ _ _ _ _ | exact ih1 _ _ _ _ _ _ _ _ _ _ _ | exact ih2 _ _ _ _ | exact api_ModPoly_int_78.mono _ _ _ | exact fi_check.mono _ _ _ _ | exact fp_Scale.mono _ _ _ _ | exact gFAdd.mono _ _ _ _ _ | exact gFFrobenius.mono _ _ _ _ | exact gFMul.mono _ _ _ _ _ | exact LeO.refl _ | exact LeO.none _ | refine LeO.ite ?_ ?_ | refine LeO.bind ?_ (fun _ => ?_)
  ·intro y0 y1 y2 y3 y4 y5 y6 y7 y8 y9 y10
   unfold fi_MinPoly.l1
   with_reducible repeat' first | exact ih0 _ _ _ _ _ _ _ | exact ih1 _ _ _ _ _ _ _ _ _ _ _ | exact ih2 _ _ _ _ | exact api_ModPoly_int_78.mono _ _ _ | exact fi_check.mono _ _ _ _ | exact fp_Scale.mono _ _ _ _ | exact gFAdd.mono _ _ _ _ _ | exact gFFrobenius.mono _ _ _ _ | exact gFMul.mono _ _ _ _ _ | exact LeO.refl _ | exact LeO.none _ | refine LeO.ite ?_ ?_ | refine LeO.bind ?_ (fun _ => ?_)
  intro y0 y1 y2 y3
  unfold fi_MinPoly.l2
  with_reducible repeat' first | exact ih0 _ _ _ _ _ _ _ | exact ih1 _ _ _ _ _ _ _ _ _ _ _ | exact ih2 _ _ _ _ | exact api_ModPoly_int_78.mono _ _ _ | exact fi_check.mono _ _ _ _ | exact fp_Scale.mono _ _ _ _ | exact gFAdd.mono _ _ _ _ _ | exact gFFrobenius.mono _ _ _ _ | exact gFMul.mono _ _ _ _ _ | exact LeO.refl _ | exact LeO.none _ | refine LeO.ite ?_ ?_ | refine LeO.bind ?_ (fun _ => ?_)
theorem fi_MinPoly.mono : ∀ a0 a1 a2 k, LeO (fi_MinPoly.f k a0 a1 a2) (fi_MinPoly.f (k + 1) a0 a1 a2) := by
 intro a0 a1 a2 k
 obtain ⟨ih0, ih1, ih2⟩ := fi_MinPoly.mono_l k
 unfold fi_MinPoly.f
 with_reducible repeat' first | exact ih0 _ _ _ _ _ _ _ | exact ih1 _ _ _ _ _ _ _ _ _ _ _ | exact ih2 _ _ _ _ | exact api_ModPoly_int_78.mono _ _ _ | exact fi_check.mono _ _ _ _ | exact fp_Scale.mono _ _ _ _ | exact gFAdd.mono _ _ _ _ _ | exact gFFrobenius.mono _ _ _ _ | exact gFMul.mono _ _ _ _ _ | exact LeO.refl _ | exact LeO.none _ | refine LeO.ite ?_ ?_ | refine LeO.bind ?_ (fun _ => ?_)
def fi_MinPoly.T12 : Bool × List (List Nat × List Nat) := (true, [([], []), ([], []), ([1], [1]), ([], []), ([], []), ([], []), ([5], [5]), ([4, 6], [4, 6]), ([7], [7]), ([], []), ([3, 8, 9], [3, 8, 9]), ([0, 2, 0, 1, 2, 3, 4, 5, 6, 7, 8, 9, 10], [0, 2]), ([11, 10, 10, 0, 1, 2, 3, 4, 5, 6, 7, 8, 9, 10], [10, 11])])
def fi_MinPoly.B12 : List Nat := [0, 0, 2, 0, 0, 0, 32, 112, 240, 0, 1016, 2047, 4095]
theorem fi_MinPoly.tab12 : rtab .any (opsOf Try.f39 12) = fi_MinPoly.T12 := by kernel_rfl
theorem fi_MinPoly.bits12 : waitsOk fi_MinPoly.T12.2 fi_MinPoly.B12 = true := by kernel_rfl
def fi_MinPoly.T13 : Bool × List (List Nat × List Nat) := (true, [([], []), ([], []), ([], []), ([], []), ([], []), ([3, 4], [3, 4]), ([5], [5]), ([], []), ([], []), ([], []), ([7, 8, 9], [7, 8, 9]), ([2, 6, 10, 10], [2, 6, 10]), ([0, 1, 0, 1, 2, 3, 4, 5, 6, 7, 8, 9, 10, 11], [0, 1]), ([12, 11, 11, 0, 1, 2, 3, 4, 5, 6, 7, 8, 9, 10, 11], [11, 12])])
def fi_MinPoly.B13 : List Nat := [0, 0, 0, 0, 0, 24, 56, 0, 0, 0, 896, 2044, 4095, 8191]
theorem fi_MinPoly.tab13 : rtab .any (opsOf Try.f39 13) = fi_MinPoly.T13 := by kernel_rfl
theorem fi_MinPoly.bits13 : waitsOk fi_MinPoly.T13.2 fi_MinPoly.B13 = true := by kernel_rfl
theorem fi_MinPoly.calls (k : Nat) (a0_0 : Int) (A0_1 : Option Addr) (c0_1 : Nat) (l0_1 : List Int) (P1_ : Nat → Prop) (A1 : Option Addr) (c1 : Nat) (l1 : List Int) (r1 : List Int) (r2 : Int) (w : World) (hr0_1 : Kd.C (Kd.int .i64) w A0_1 l0_1.length l0_1) (hc0_1 : l0_1.length ≤ c0_1) (hs1 : Kd.V (Kd.int .i64) 3 w w.heap.size (fun k_ => P1_ k_) (.slice A1 l1.length c1) l1) (h : fi_MinPoly.f k a0_0 l0_1 l1 = some (r1, r2)) :
  Calls Try.prog 39 #[.agg #[.int .i64 a0_0, .slice A0_1 l0_1.length c0_1], .slice A1 l1.length c1] w fun e w' => ∃ v0_ : Value, e = .returned (.tuple #[v0_, .int .i64 r2]) ∧ Kd.R (Kd.int .i64) 3 w' w.heap.size (fun k_ => (w.heap.size ≤ k_)) v0_ r1 ∧ Below w.heap.size w w' := by
 have hu33 := Try.underlying33
 have hu68 := Try.underlying68
 have HR0_1 := zm hr0_1
 have HC0_1 := zm hc0_1
 clear hr0_1 hc0_1
 have HO1 := zm (show Kd.V (Kd.int .i64) 3 w w.heap.size (fun k_ => (P1_ k_ ∨ w.heap.size ≤ k_)) (.slice A1 l1.length c1) l1 from Kd.V_mono hs1 (fun k_ hk => .inl hk))
 have HB := zm (Below.refl w.heap.size w)
 have H := h; clear h; unfold fi_MinPoly.f at H
 obtain ⟨y102, Ny102⟩ := zA ((([l1] : List (List Int))) : List (List Int)); rw [← Ny102.out] at H
 obtain ⟨t105, A3, H⟩ := zO H
 by_cases c4 : t105 = 0
 rotate_left
 ·rw [if_neg c4] at H
  obtain ⟨c4b0, c4b1⟩ := zU c4
  simp only [Option.some.injEq, Prod.mk.injEq] at H
  obtain ⟨rfl, rfl⟩ := H
  go_enter Try.func39, Try.ntmps39
  go_wp2_with (first | ((with_reducible refine gate_dst (N := 2) rfl ?_); refine zb 2 #[.int .i64 a0_0, .slice A0_1 l0_1.length c0_1] 33 ?_; intro gb101 hg w75 hbox hb; replace HO1 := zm (Kd.V_below (Kd.V_elderB (zV HO1.out) gb101 (Nat.le_of_eq hg.symm)) hb); have BK101 := zm (hbox); have GW101 := zm ((by rw [hg]; exact (below_size (by repeat (first | (with_reducible first | exact HB.out | apply below_alloc | apply pw_below_drewN | apply below_drew1) | exact HB.out))) : w.heap.size ≤ gb101)); have GE101 := zm ((by rw [hg]; exact (below_size (by repeat (first | (with_reducible first | exact HB.out | apply below_alloc | apply pw_below_drewN | apply below_drew1) | exact HB.out))) : w.heap.size ≤ gb101)); replace HB := zm (below_step (by repeat (first | (with_reducible first | exact HB.out | apply below_alloc | apply pw_below_drewN | apply below_drew1) | exact HB.out)) hb); clear hb hbox hg; obtain ⟨hcz76_0, hcz76_1, hfz76_0, hfz76_1⟩ := zf2 BK101) | ((with_reducible refine gate_dst (N := 20) rfl ?_); refine Kd.N_lit (Kd.slice 3 (Kd.int .i64)) _ 25 ?hg (N' := 20) ?hd (xs := ([l1] : List (List Int))) (inner := [.slice A1 l1.length c1]) (ok := (fun k_ => (P1_ k_ ∨ w.heap.size ≤ k_) ∧ k_ ≠ gb101)) (okp := (fun k_ => (P1_ k_ ∨ w.heap.size ≤ k_) ∧ k_ ≠ gb101)) ?hr ?hp (fun _ hk => hk) ((show ∀ k_, w75.heap.size ≤ k_ → (fun k_ => (P1_ k_ ∨ w.heap.size ≤ k_) ∧ k_ ≠ gb101) k_ from fun k_ hk => ⟨(.inr (Nat.le_trans (below_size (by repeat (first | (with_reducible first | exact HB.out | apply below_alloc | apply pw_below_drewN | apply below_drew1 | refine below_set ?_ GE101.out) | exact HB.out))) hk)), Kd.freshB (zK BK101.out) k_ hk⟩) _ (Nat.le_refl _)) (Below.refl _ _) (Nat.le_refl _) (by simp) ?_; (case hd => rfl); (case hg => rfl); (case hr => go_simp <;> rfl); (case hp => exact (Reps.one (show Kd.FK (Kd.slice 3 (Kd.int .i64)) _ _ l1 [.slice A1 l1.length c1] from (zFK HO1.out (fun k_ hk => ⟨hk.1, hk.2⟩))) (Reps.none _ _))); intro v103 w77 ho78 hb hg_ hnew_; clear hg_ hnew_; (first | rw [← Ny102.out] at ho78 | (simp only [Int.reduceToNat] at ho78; rw [← Ny102.out] at ho78)); replace HO1 := zm (Kd.V_elder' (zV HO1.out) (Kd.N_base ho78) hb); have HO104 := zm (Kd.N_lower ho78 (below_size (by repeat (first | (with_reducible first | exact HB.out | apply below_alloc | apply pw_below_drewN | apply below_drew1 | refine below_set ?_ GE101.out) | exact HB.out)))); replace BK101 := zKb BK101 hb; replace HB := zm (below_step (by repeat (first | (with_reducible first | exact HB.out | apply below_alloc | apply pw_below_drewN | apply below_drew1 | refine below_set ?_ GE101.out) | exact HB.out)) hb); clear hb ho78; obtain ⟨Ao79, co79, eo79⟩ := Kd.N_slice HO104.out; subst eo79) | ((with_reducible refine gate_callee (f := 53) rfl ?_); refine zG (some 21) Try.func53 #[.agg #[.int .i64 a0_0, .slice A0_1 l0_1.length c0_1], .slice Ao79 y102.length co79] ?_; (with_reducible refine (fi_check.calls k a0_0 _ _ l0_1 _ _ y102 t105 _ (zC (Kd.C_below HR0_1.out HB.out)) HC0_1.out (zC ((Kd.N_reads' HO104.out).2.2)) ((Kd.N_reads' HO104.out).2.1) A3.out).mono ?_); rintro e w80 ⟨rfl, hb⟩; refine ⟨_, rfl, ?_⟩; replace HO1 := zVb HO1 hb; replace HO104 := zNb HO104 hb; replace BK101 := zKb BK101 hb; replace HB := zm (below_step (by repeat (first | (with_reducible first | exact HB.out | apply below_alloc | apply pw_below_drewN | apply below_drew1 | refine below_set ?_ GE101.out) | exact HB.out)) hb)))
  go_ret2
  exact ⟨_, zQ, by first | exact Kd.R_nil _ _ _ _ _ | exact Kd.N_nil _ _ _ _ _ | exact Kd.V_nil _ _ _ _ _ | exact Kd.Q_nil _ _ _ _ _ | exact Kd.S_nil _ _ _ _ _, by repeat (first | (with_reducible first | exact HB.out | apply below_alloc | apply pw_below_drewN | apply below_drew1 | refine below_set ?_ GE101.out) | exact HB.out)⟩
 rw [if_pos c4] at H
 obtain ⟨c4b0, c4b1⟩ := zE c4; clear c4
 obtain ⟨t107, A5, H⟩ := zO H
 obtain ⟨y110, Ny110⟩ := zA ((([t107] : List (List Int))) : List (List Int)); rw [← Ny110.out] at H
 have H' := zm H
 clear H
 go_enter Try.func39, Try.ntmps39
 go_wp2_with (first | ((with_reducible refine gate_dst (N := 2) rfl ?_); refine zb 2 #[.int .i64 a0_0, .slice A0_1 l0_1.length c0_1] 33 ?_; intro gb101 hg w6 hbox hb; replace HO1 := zm (Kd.V_below (Kd.V_elderB (zV HO1.out) gb101 (Nat.le_of_eq hg.symm)) hb); have BK101 := zm (hbox); have GW101 := zm ((by rw [hg]; exact (below_size (by repeat (first | (with_reducible first | exact HB.out | apply below_alloc | apply pw_below_drewN | apply below_drew1) | exact HB.out))) : w.heap.size ≤ gb101)); have GE101 := zm ((by rw [hg]; exact (below_size (by repeat (first | (with_reducible first | exact HB.out | apply below_alloc | apply pw_below_drewN | apply below_drew1) | exact HB.out))) : w.heap.size ≤ gb101)); replace HB := zm (below_step (by repeat (first | (with_reducible first | exact HB.out | apply below_alloc | apply pw_below_drewN | apply below_drew1) | exact HB.out)) hb); clear hb hbox hg; obtain ⟨hcz7_0, hcz7_1, hfz7_0, hfz7_1⟩ := zf2 BK101) | ((with_reducible refine gate_dst (N := 20) rfl ?_); refine Kd.N_lit (Kd.slice 3 (Kd.int .i64)) _ 25 ?hg (N' := 20) ?hd (xs := ([l1] : List (List Int))) (inner := [.slice A1 l1.length c1]) (ok := (fun k_ => (P1_ k_ ∨ w.heap.size ≤ k_) ∧ k_ ≠ gb101)) (okp := (fun k_ => (P1_ k_ ∨ w.heap.size ≤ k_) ∧ k_ ≠ gb101)) ?hr ?hp (fun _ hk => hk) ((show ∀ k_, w6.heap.size ≤ k_ → (fun k_ => (P1_ k_ ∨ w.heap.size ≤ k_) ∧ k_ ≠ gb101) k_ from fun k_ hk => ⟨(.inr (Nat.le_trans (below_size (by repeat (first | (with_reducible first | exact HB.out | apply below_alloc | apply pw_below_drewN | apply below_drew1 | refine below_set ?_ GE101.out) | exact HB.out))) hk)), Kd.freshB (zK BK101.out) k_ hk⟩) _ (Nat.le_refl _)) (Below.refl _ _) (Nat.le_refl _) (by simp) ?_; (case hd => rfl); (case hg => rfl); (case hr => go_simp <;> rfl); (case hp => exact (Reps.one (show Kd.FK (Kd.slice 3 (Kd.int .i64)) _ _ l1 [.slice A1 l1.length c1] from (zFK HO1.out (fun k_ hk => ⟨hk.1, hk.2⟩))) (Reps.none _ _))); intro v103 w8 ho9 hb hg_ hnew_; clear hg_ hnew_; (first | rw [← Ny102.out] at ho9 | (simp only [Int.reduceToNat] at ho9; rw [← Ny102.out] at ho9)); replace HO1 := zm (Kd.V_elder' (zV HO1.out) (Kd.N_base ho9) hb); have HO104 := zm (Kd.N_lower ho9 (below_size (by repeat (first | (with_reducible first | exact HB.out | apply below_alloc | apply pw_below_drewN | apply below_drew1 | refine below_set ?_ GE101.out) | exact HB.out)))); replace BK101 := zKb BK101 hb; replace HB := zm (below_step (by repeat (first | (with_reducible first | exact HB.out | apply below_alloc | apply pw_below_drewN | apply below_drew1 | refine below_set ?_ GE101.out) | exact HB.out)) hb); clear hb ho9; obtain ⟨Ao10, co10, eo10⟩ := Kd.N_slice HO104.out; subst eo10) | ((with_reducible refine gate_callee (f := 53) rfl ?_); refine zG (some 21) Try.func53 #[.agg #[.int .i64 a0_0, .slice A0_1 l0_1.length c0_1], .slice Ao10 y102.length co10] ?_; (with_reducible refine (fi_check.calls k a0_0 _ _ l0_1 _ _ y102 t105 _ (zC (Kd.C_below HR0_1.out HB.out)) HC0_1.out (zC ((Kd.N_reads' HO104.out).2.2)) ((Kd.N_reads' HO104.out).2.1) A3.out).mono ?_); rintro e w11 ⟨rfl, hb⟩; refine ⟨_, rfl, ?_⟩; replace HO1 := zVb HO1 hb; replace HO104 := zNb HO104 hb; replace BK101 := zKb BK101 hb; replace HB := zm (below_step (by repeat (first | (with_reducible first | exact HB.out | apply below_alloc | apply pw_below_drewN | apply below_drew1 | refine below_set ?_ GE101.out) | exact HB.out)) hb); obtain ⟨hcz12_0, hcz12_1, hfz12_0, hfz12_1⟩ := zf2 BK101) | ((with_reducible refine gate_dst (N := 7) rfl ?_); refine zb 7 #[.int .i64 0, .slice none 0 0] 68 ?_; intro gb106 hg w13 hbox hb; replace HO1 := zm (Kd.V_below (Kd.V_elderB (zV HO1.out) gb106 (Nat.le_of_eq hg.symm)) hb); replace HO104 := zm (Kd.N_below (Kd.N_elderB (zN HO104.out) gb106 (Nat.le_of_eq hg.symm)) hb); have BK106 := zm (hbox); have GW106 := zm ((by rw [hg]; exact (below_size (by repeat (first | (with_reducible first | exact HB.out | apply below_alloc | apply pw_below_drewN | apply below_drew1 | refine below_set ?_ GE101.out) | exact HB.out))) : w.heap.size ≤ gb106)); have GE106 := zm ((by rw [hg]; exact (below_size (by repeat (first | (with_reducible first | exact HB.out | apply below_alloc | apply pw_below_drewN | apply below_drew1 | refine below_set ?_ GE101.out) | exact HB.out))) : w.heap.size ≤ gb106)); replace HB := zm (below_step (by repeat (first | (with_reducible first | exact HB.out | apply below_alloc | apply pw_below_drewN | apply below_drew1 | refine below_set ?_ GE101.out) | exact HB.out)) hb); have NB101_106 := zm ((by rw [hg]; exact Nat.ne_of_lt (blk_lt (zK BK101.out)) : gb101 ≠ gb106)); have NB106_101 := zm ((by rw [hg]; exact Nat.ne_of_gt (blk_lt (zK BK101.out)) : gb106 ≠ gb101)); replace BK101 := zKb BK101 hb; clear hb hbox hg; have hnb14 := NB106_101.out; have hnc14 := NB101_106.out; obtain ⟨hcz15_0, hcz15_1, hfz15_0, hfz15_1⟩ := zf2 BK106) | ((with_reducible refine gate_callee (f := 75) rfl ?_); refine zG (some 28) Try.func75 #[.agg #[.int .i64 a0_0, .slice A0_1 l0_1.length c0_1]] ?_; (with_reducible refine (gFOne.calls a0_0 _ _ l0_1 t107 _ ?side1 ?side2 A5.out).mono ?_); (case side1 => exact Kd.C_below HR0_1.out (by repeat (first | (with_reducible first | exact HB.out | apply below_alloc | apply pw_below_drewN | apply below_drew1 | refine below_set ?_ GE101.out | refine below_set ?_ GE106.out) | exact HB.out))); (case side2 => exact HC0_1.out); rintro e w16 ⟨v108, rfl, ho0, hb⟩; refine ⟨_, rfl, ?_⟩; replace HO1 := zm (Kd.V_elder' (zV ((Kd.V_mono (Kd.V_far (p := ⟨gb106, 1, none⟩) (Kd.V_far (p := ⟨gb106, 0, none⟩) (Kd.V_mono HO1.out (fun k_ hk => (⟨hk, hk.2⟩ : _ ∧ k_ ≠ gb106))) (fun _ hk => hk.2) (.int .i64 a0_0)) (fun _ hk => hk.2) (.slice A0_1 l0_1.length c0_1)) (fun _ h_ => h_.1)))) (Kd.R_base ho0) hb); replace HO104 := zm (Kd.N_elder' (zN ((Kd.N_mono (Kd.N_far (p := ⟨gb106, 1, none⟩) (Kd.N_far (p := ⟨gb106, 0, none⟩) (Kd.N_mono HO104.out (fun k_ hk => (⟨hk, hk.2⟩ : _ ∧ k_ ≠ gb106))) (fun _ hk => hk.2) (.int .i64 a0_0)) (fun _ hk => hk.2) (.slice A0_1 l0_1.length c0_1)) (fun _ h_ => h_.1)))) (Kd.R_base ho0) hb); have HO109 := zm (Kd.R_lower (Kd.R_newM (M := fun k_ => (w.heap.size ≤ k_)) ho0 (below_size (by repeat (first | (with_reducible first | exact HB.out | apply below_alloc | apply pw_below_drewN | apply below_drew1 | refine below_set ?_ GE101.out | refine below_set ?_ GE106.out) | exact HB.out))) (fun k_ h_ => h_)) (below_size (by repeat (first | (with_reducible first | exact HB.out | apply below_alloc | apply pw_below_drewN | apply below_drew1 | refine below_set ?_ GE101.out | refine below_set ?_ GE106.out) | exact HB.out)))); replace BK101 := zm (blk_below (g := gb101) (o := .cells #[.int .i64 a0_0, .slice A0_1 l0_1.length c0_1] 33 (0, 0)) (by (with_reducible repeat (first | refine blk_drewN ?_ _ | refine blk_drew ?_ | refine blk_alloc ?_ _)); refine blk_far ?_ NB101_106.out _; (with_reducible repeat (first | refine blk_drewN ?_ _ | refine blk_drew ?_ | refine blk_alloc ?_ _)); refine blk_far ?_ NB101_106.out _; (with_reducible repeat (first | refine blk_drewN ?_ _ | refine blk_drew ?_ | refine blk_alloc ?_ _)); exact BK101.out) hb); replace BK106 := zm (blk_below (g := gb106) (o := .cells #[.int .i64 a0_0, .slice A0_1 l0_1.length c0_1] 68 (0, 0)) (by (with_reducible repeat (first | refine blk_drewN ?_ _ | refine blk_drew ?_ | refine blk_alloc ?_ _)); refine blk_put (cs := #[.int .i64 a0_0, .slice none 0 0]) ?_ 1 _ rfl; (with_reducible repeat (first | refine blk_drewN ?_ _ | refine blk_drew ?_ | refine blk_alloc ?_ _)); refine blk_put (cs := #[.int .i64 0, .slice none 0 0]) ?_ 0 _ rfl; (with_reducible repeat (first | refine blk_drewN ?_ _ | refine blk_drew ?_ | refine blk_alloc ?_ _)); exact BK106.out) hb); replace HB := zm (below_step (by repeat (first | (with_reducible first | exact HB.out | apply below_alloc | apply pw_below_drewN | apply below_drew1 | refine below_set ?_ GE101.out | refine below_set ?_ GE106.out) | exact HB.out)) hb); obtain ⟨Ao17, co17, eo17⟩ := Kd.R_slice HO109.out; subst eo17) | ((with_reducible refine gate_dst (N := 29) rfl ?_); refine Kd.N_lit (Kd.slice 3 (Kd.int .i64)) _ 25 ?hg (N' := 29) ?hd (xs := ([t107] : List (List Int))) (inner := [.slice Ao17 t107.length co17]) (ok := (fun k_ => (P1_ k_ ∨ w.heap.size ≤ k_) ∧ some k_ ≠ (.slice Ao10 y102.length co10 : Value).ownBlock ∧ k_ ≠ gb101 ∧ k_ ≠ gb106)) (okp := (fun k_ => (P1_ k_ ∨ w.heap.size ≤ k_) ∧ some k_ ≠ (.slice Ao10 y102.length co10 : Value).ownBlock ∧ k_ ≠ gb101 ∧ k_ ≠ gb106)) ?hr ?hp (fun _ hk => hk) ((show ∀ k_, w16.heap.size ≤ k_ → (fun k_ => (P1_ k_ ∨ w.heap.size ≤ k_) ∧ some k_ ≠ (.slice Ao10 y102.length co10 : Value).ownBlock ∧ k_ ≠ gb101 ∧ k_ ≠ gb106) k_ from fun k_ hk => ⟨(.inr (Nat.le_trans (below_size (by repeat (first | (with_reducible first | exact HB.out | apply below_alloc | apply pw_below_drewN | apply below_drew1 | refine below_set ?_ GE101.out | refine below_set ?_ GE106.out) | exact HB.out))) hk)), Kd.fresh' (Kd.N_lt (zN HO104.out)) k_ hk, Kd.freshB (zK BK101.out) k_ hk, Kd.freshB (zK BK106.out) k_ hk⟩) _ (Nat.le_refl _)) (Below.refl _ _) (Nat.le_refl _) (by simp) ?_; (case hd => rfl); (case hg => rfl); (case hr => go_simp <;> rfl); (case hp => exact (Reps.one (show Kd.FK (Kd.slice 3 (Kd.int .i64)) _ _ t107 [.slice Ao17 t107.length co17] from (Kd.FK_slice_mk (Kd.R_reads' (Kd.R_mono (ok' := (fun k_ => (P1_ k_ ∨ w.heap.size ≤ k_) ∧ some k_ ≠ (.slice Ao10 y102.length co10 : Value).ownBlock ∧ k_ ≠ gb101 ∧ k_ ≠ gb106)) (Kd.R_types (Kd.R_types (Kd.R_apart' (HO109.out) (Kd.N_typed HO104.out) (by decide)) BK101.out (by decide)) BK106.out (by decide)) (fun k_ hk => ⟨(.inr (hk.1.1.1.1)), ⟨hk.1.1.2, ⟨hk.1.2, hk.2⟩⟩⟩))).2.1 (Kd.R_F (Kd.R_mono (ok' := (fun k_ => (P1_ k_ ∨ w.heap.size ≤ k_) ∧ some k_ ≠ (.slice Ao10 y102.length co10 : Value).ownBlock ∧ k_ ≠ gb101 ∧ k_ ≠ gb106)) (Kd.R_types (Kd.R_types (Kd.R_apart' (HO109.out) (Kd.N_typed HO104.out) (by decide)) BK101.out (by decide)) BK106.out (by decide)) (fun k_ hk => ⟨(.inr (hk.1.1.1.1)), ⟨hk.1.1.2, ⟨hk.1.2, hk.2⟩⟩⟩))))) (Reps.none _ _))); intro v111 w18 ho19 hb hg_ hnew_; clear hg_ hnew_; (first | rw [← Ny110.out] at ho19 | (simp only [Int.reduceToNat] at ho19; rw [← Ny110.out] at ho19)); replace HO1 := zm (Kd.V_elder' (zV HO1.out) (Kd.N_base ho19) hb); replace HO104 := zm (Kd.N_elder' (zN HO104.out) (Kd.N_base ho19) hb); have HO112 := zm (Kd.N_lower ho19 (below_size (by repeat (first | (with_reducible first | exact HB.out | apply below_alloc | apply pw_below_drewN | apply below_drew1 | refine below_set ?_ GE101.out | refine below_set ?_ GE106.out) | exact HB.out)))); replace BK101 := zKb BK101 hb; replace BK106 := zKb BK106 hb; replace HB := zm (below_step (by repeat (first | (with_reducible first | exact HB.out | apply below_alloc | apply pw_below_drewN | apply below_drew1 | refine below_set ?_ GE101.out | refine below_set ?_ GE106.out) | exact HB.out)) hb); clear HO109; clear hb ho19))
 go_loopg [8, 9] k (fun kq v8 v9 w' => ∃ (x8_1 : List (List Int)) (x9_1 : List Int), Aside0 (fi_MinPoly.l0 kq l1 x8_1 x9_1 a0_0 l0_1 a0_0 l0_1 = some (r1, r2)) ∧ Aside0 (kq ≤ k) ∧ Aside0 (Kd.V (Kd.int .i64) 3 w' w.heap.size (fun k_ => (P1_ k_ ∨ w.heap.size ≤ k_) ∧ some k_ ≠ (v8 : Value).ownBlock ∧ k_ ≠ gb101 ∧ k_ ≠ gb106) (.slice A1 l1.length c1) l1) ∧ Aside0 (Kd.N (Kd.slice 3 (Kd.int .i64)) 25 w' w.heap.size (fun k_ => (P1_ k_ ∨ w.heap.size ≤ k_) ∧ k_ ≠ gb101 ∧ k_ ≠ gb106) v8 x8_1) ∧ Aside0 (Kd.V (Kd.int .i64) 3 w' w.heap.size (fun k_ => (P1_ k_ ∨ w.heap.size ≤ k_) ∧ some k_ ≠ (v8 : Value).ownBlock ∧ k_ ≠ gb101 ∧ k_ ≠ gb106) v9 x9_1) ∧ Aside0 (w'.heap[gb101]? = some (.cells #[.int .i64 a0_0, (.slice A0_1 l0_1.length c0_1)] 33 (0, 0))) ∧ Aside0 (w'.heap[gb106]? = some (.cells #[.int .i64 a0_0, (.slice A0_1 l0_1.length c0_1)] 68 (0, 0))) ∧ Aside0 (Below w.heap.size w w'))
 case atStart => exact ⟨(y110), (l1), H', ⟨Nat.le_refl _⟩, ⟨zV (Kd.V_mono HO1.out (fun _ hk => ⟨hk.1.1.1.1.1, ⟨hk.2, ⟨hk.1.1.1.1.2, hk.1.1.2⟩⟩⟩))⟩, ⟨zN (Kd.N_mono HO112.out (fun _ hk => ⟨hk.1, ⟨hk.2.2.1, hk.2.2.2⟩⟩))⟩, ⟨zV (Kd.V_mono HO1.out (fun _ hk => ⟨hk.1.1.1.1.1, ⟨hk.2, ⟨hk.1.1.1.1.2, hk.1.1.2⟩⟩⟩))⟩, ⟨zK BK101.out⟩, ⟨zK BK106.out⟩, ⟨by repeat (first | (with_reducible first | exact HB.out | apply below_alloc | apply pw_below_drewN | apply below_drew1 | refine below_set ?_ GE101.out | refine below_set ?_ GE106.out) | exact HB.out)⟩⟩
 case round =>
  clear H'
  obtain ⟨x8_1, x9_1, HA, HK1, HO_1, HO_8, HO_9, BK101, BK106, HB⟩ := hrel
  cases gk with
  | zero => exact absurd HA.out (by simp [fi_MinPoly.l0])
  | succ k1 =>
   have H := HA.out
   clear HA
   simp only [fi_MinPoly.l0] at H
   obtain ⟨t113, A20, H⟩ := zO H
   obtain ⟨ji21, hji21⟩ : ∃ j_ : Int, (wrap64 ((x8_1.length : Int) + 1)) = j_ := ⟨_, rfl⟩
   first | rw [hji21] at H | simp only [hji21] at H
   (try rw [hji21] at A20)
   have hji21w : (IntKind.i64.wrap ((x8_1.length : Int) + 1)) = ji21 := (i64_w _).trans hji21
   by_cases c22 : 0 ≤ (ji21)
   rotate_left
   ·rw [if_neg c22] at H
    exact absurd H (by simp)
   rw [if_pos c22] at H
   have c22b0 := eq_true c22; have c22b1 := decide_eq_true c22; clear c22
   by_cases c23 : (ji21 : Int).toNat ≤ 11728124029610
   rotate_left
   ·rw [if_neg c23] at H
    exact absurd H (by simp)
   rw [if_pos c23] at H
   have c23b0 := eq_true c23; have c23b1 := decide_eq_true c23; clear c23
   obtain ⟨y116, Ny116⟩ := zA ((List.replicate (ji21 : Int).toNat []) : List (List Int)); rw [← Ny116.out] at H
   have H' := zm H
   clear H
   have hnb24 := NB101_106.out
   have hnc24 := NB106_101.out
   obtain ⟨hcz25_0, hcz25_1, hfz25_0, hfz25_1⟩ := zf2 BK101
   obtain ⟨Ao26, co26, eo26⟩ := Kd.V_slice HO_9.out
   subst eo26
   go_wp2_with (first | ((with_reducible refine gate_callee (f := 57) rfl ?_); refine zG (some 37) Try.func57 #[.int .i64 a0_0, .slice Ao26 x9_1.length co26, .int .i64 (wrap64 (a0_0 - 1))] ?_; (with_reducible refine (fp_Scale.calls k1 a0_0 _ _ x9_1 (wrap64 (a0_0 - 1)) t113 _ (zC ((Kd.V_reads' HO_9.out).2.2)) ((Kd.V_reads' HO_9.out).2.1) A20.out).mono ?_); rintro e w27 ⟨v114, rfl, ho0, hb⟩; refine ⟨_, rfl, ?_⟩; replace HO_1 := zVb HO_1 hb; replace HO_9 := zVb HO_9 hb; have HO115 := zm (Kd.V_lower (Kd.V_mono (ok' := fun k_ => (P1_ k_ ∨ w.heap.size ≤ k_) ∧ some k_ ≠ (u8 : Value).ownBlock ∧ k_ ≠ gb101 ∧ k_ ≠ gb106) ho0 (fun k_ hk_ => ⟨(.inr (Nat.le_trans (below_size (by repeat (first | (with_reducible first | exact HB.out | apply below_alloc | apply pw_below_drewN | apply below_drew1 | refine below_set ?_ GE101.out | refine below_set ?_ GE106.out) | exact HB.out))) hk_)), (Kd.fresh' (Kd.N_lt (zN HO_8.out)) k_ hk_), (Kd.freshB (zK BK101.out) k_ hk_), (Kd.freshB (zK BK106.out) k_ hk_)⟩)) (below_size (by repeat (first | (with_reducible first | exact HB.out | apply below_alloc | apply pw_below_drewN | apply below_drew1 | refine below_set ?_ GE101.out | refine below_set ?_ GE106.out) | exact HB.out)))); replace HO_8 := zNb HO_8 hb; replace BK101 := zKb BK101 hb; replace BK106 := zKb BK106 hb; replace HB := zm (below_step (by repeat (first | (with_reducible first | exact HB.out | apply below_alloc | apply pw_below_drewN | apply below_drew1 | refine below_set ?_ GE101.out | refine below_set ?_ GE106.out) | exact HB.out)) hb); obtain ⟨Ao28, co28, eo28⟩ := Kd.N_slice HO_8.out; subst eo28) | ((with_reducible refine gate_dst (N := 41) rfl ?_); refine Kd.N_make (Kd.slice 3 (Kd.int .i64)) _ 25 rfl (N' := 41) rfl 91 _ _ rfl ji21 rfl rfl Try.underlying91 (.slice none 0 0) 24 info25 rfl (by decide) (by omega) [] (ok := fun k_ => w27.heap.size ≤ k_) (okp := fun _ => False) (Kd.FK_slice_mk (Nat.le_refl _) (Kd.F_nil _ _ _)) (fun _ hk => hk.elim) (Nat.le_refl _) zD (Nat.le_trans (Nat.mul_le_mul_right _ (zD : ji21.toNat ≤ 11728124029610)) (by omega)) (Below.refl _ _) (Nat.le_refl _) ?_; intro v117 w29 ho30 hb hg_ hnew_; clear hg_ hnew_; (first | rw [← Ny116.out] at ho30 | (simp only [Int.reduceToNat] at ho30; rw [← Ny116.out] at ho30)); replace HO_1 := zm (Kd.V_elder' (zV HO_1.out) (Kd.N_base ho30) hb); replace HO_9 := zm (Kd.V_elder' (zV HO_9.out) (Kd.N_base ho30) hb); replace HO115 := zm (Kd.V_elder' (zV HO115.out) (Kd.N_base ho30) hb); have HO118 := zm (Kd.N_lower (Kd.N_mono (ok' := fun k_ => (P1_ k_ ∨ w.heap.size ≤ k_) ∧ some k_ ≠ (.slice Ao28 x8_1.length co28 : Value).ownBlock ∧ k_ ≠ gb101 ∧ k_ ≠ gb106) ho30 (fun k_ hk_ => ⟨(.inr (Nat.le_trans (below_size (by repeat (first | (with_reducible first | exact HB.out | apply below_alloc | apply pw_below_drewN | apply below_drew1 | refine below_set ?_ GE101.out | refine below_set ?_ GE106.out) | exact HB.out))) hk_)), (Kd.fresh' (Kd.N_lt (zN HO_8.out)) k_ hk_), (Kd.freshB (zK BK101.out) k_ hk_), (Kd.freshB (zK BK106.out) k_ hk_)⟩)) (below_size (by repeat (first | (with_reducible first | exact HB.out | apply below_alloc | apply pw_below_drewN | apply below_drew1 | refine below_set ?_ GE101.out | refine below_set ?_ GE106.out) | exact HB.out)))); replace HO_8 := zm (Kd.N_elder' (zN HO_8.out) (Kd.N_base ho30) hb); replace BK101 := zKb BK101 hb; replace BK106 := zKb BK106 hb; replace HB := zm (below_step (by repeat (first | (with_reducible first | exact HB.out | apply below_alloc | apply pw_below_drewN | apply below_drew1 | refine below_set ?_ GE101.out | refine below_set ?_ GE106.out) | exact HB.out)) hb); clear hb ho30))
   go_loopg [44] k1 (fun kq v44 w' => ∃ (x11_2 : List (List Int)) (x44_2 : Int), v44 = .int .i64 x44_2 ∧ Aside0 (fi_MinPoly.l1 kq l1 x9_1 t113 x11_2 x8_1 (x8_1.length : Int) x44_2 a0_0 l0_1 a0_0 l0_1 = some (r1, r2)) ∧ Aside0 (kq ≤ k1) ∧ Aside0 (Kd.V (Kd.int .i64) 3 w' w.heap.size (fun k_ => (P1_ k_ ∨ w.heap.size ≤ k_) ∧ some k_ ≠ (v117 : Value).ownBlock ∧ some k_ ≠ ((.slice Ao28 x8_1.length co28) : Value).ownBlock ∧ k_ ≠ gb101 ∧ k_ ≠ gb106) (.slice A1 l1.length c1) l1) ∧ Aside0 (Kd.V (Kd.int .i64) 3 w' w.heap.size (fun k_ => (P1_ k_ ∨ w.heap.size ≤ k_) ∧ some k_ ≠ (v117 : Value).ownBlock ∧ some k_ ≠ ((.slice Ao28 x8_1.length co28) : Value).ownBlock ∧ k_ ≠ gb101 ∧ k_ ≠ gb106) (.slice Ao26 x9_1.length co26) x9_1) ∧ Aside0 (Kd.V (Kd.int .i64) 3 w' w.heap.size (fun k_ => (P1_ k_ ∨ w.heap.size ≤ k_) ∧ some k_ ≠ (v117 : Value).ownBlock ∧ some k_ ≠ ((.slice Ao28 x8_1.length co28) : Value).ownBlock ∧ k_ ≠ gb101 ∧ k_ ≠ gb106) v114 t113) ∧ Aside0 (Kd.N (Kd.slice 3 (Kd.int .i64)) 25 w' w.heap.size (fun k_ => (P1_ k_ ∨ w.heap.size ≤ k_) ∧ some k_ ≠ ((.slice Ao28 x8_1.length co28) : Value).ownBlock ∧ k_ ≠ gb101 ∧ k_ ≠ gb106) v117 x11_2) ∧ Aside0 (Kd.N (Kd.slice 3 (Kd.int .i64)) 25 w' w.heap.size (fun k_ => (P1_ k_ ∨ w.heap.size ≤ k_) ∧ some k_ ≠ (v117 : Value).ownBlock ∧ k_ ≠ gb101 ∧ k_ ≠ gb106) (.slice Ao28 x8_1.length co28) x8_1) ∧ Aside0 (w'.heap[gb101]? = some (.cells #[.int .i64 a0_0, (.slice A0_1 l0_1.length c0_1)] 33 (0, 0))) ∧ Aside0 (w'.heap[gb106]? = some (.cells #[.int .i64 a0_0, (.slice A0_1 l0_1.length c0_1)] 68 (0, 0))) ∧ Aside0 (Below w.heap.size w w'))
   case atStart => exact ⟨(y116), (0), zX, H', ⟨Nat.le_refl _⟩, ⟨zV (Kd.V_mono HO_1.out (fun _ hk => ⟨hk.1.1, ⟨hk.2, ⟨hk.1.2.1, ⟨hk.1.2.2.1, hk.1.2.2.2⟩⟩⟩⟩))⟩, ⟨zV (Kd.V_mono HO_9.out (fun _ hk => ⟨hk.1.1, ⟨hk.2, ⟨hk.1.2.1, ⟨hk.1.2.2.1, hk.1.2.2.2⟩⟩⟩⟩))⟩, ⟨zV (Kd.V_mono HO115.out (fun _ hk => ⟨hk.1.1, ⟨hk.2, ⟨hk.1.2.1, ⟨hk.1.2.2.1, hk.1.2.2.2⟩⟩⟩⟩))⟩, ⟨zN HO118.out⟩, ⟨zN (Kd.N_mono HO_8.out (fun _ hk => ⟨hk.1.1, ⟨hk.2, ⟨hk.1.2.1, hk.1.2.2⟩⟩⟩))⟩, ⟨zK BK101.out⟩, ⟨zK BK106.out⟩, ⟨by repeat (first | (with_reducible first | exact HB.out | apply below_alloc | apply pw_below_drewN | apply below_drew1 | refine below_set ?_ GE101.out | refine below_set ?_ GE106.out) | exact HB.out)⟩⟩
   case round =>
    clear H'
    obtain ⟨x11_2, x44_2, rfl, HA, HK2, HO_1, HO_9, HO_10, HO_11, HO_42, BK101, BK106, HB⟩ := hrel
    cases gk with
    | zero => exact absurd HA.out (by simp [fi_MinPoly.l1])
    | succ k2 =>
     have H := HA.out
     clear HA
     simp only [fi_MinPoly.l1] at H
     by_cases c31 : x44_2 < (x8_1.length : Int)
     rotate_left
     ·rw [if_neg c31] at H
      have c31b0 := decide_eq_false c31; clear c31
      obtain ⟨t133, A54, H⟩ := zO H
      obtain ⟨t136, A55, H⟩ := zO H
      by_cases c56 : t136 = true
      rotate_left
      ·replace c56 := Bool.eq_false_iff.mpr c56
       subst c56
       rw [if_neg Bool.false_ne_true] at H
       have H' := zm H
       clear H
       have hnb71 := NB106_101.out
       have hnc71 := NB101_106.out
       obtain ⟨hcz72_0, hcz72_1, hfz72_0, hfz72_1⟩ := zf2 BK106
       go_wp2_with (first | ((with_reducible refine gate_callee (f := 77) rfl ?_); refine zG (some 78) Try.func77 #[.agg #[.int .i64 a0_0, .slice A0_1 l0_1.length c0_1], .slice Ao26 x9_1.length co26] ?_; (with_reducible refine (gFFrobenius.calls k2 a0_0 _ _ l0_1 _ _ x9_1 t133 _ (zC (Kd.C_below HR0_1.out HB.out)) HC0_1.out (zC ((Kd.V_reads' HO_9.out).2.2)) ((Kd.V_reads' HO_9.out).2.1) A54.out).mono ?_); rintro e w73 ⟨v134, rfl, ho0, hb⟩; refine ⟨_, rfl, ?_⟩; replace HO_1 := zVb HO_1 hb; replace HO_9 := zVb HO_9 hb; replace HO_10 := zVb HO_10 hb; have HO135 := zm (Kd.V_lower (Kd.V_mono (ok' := fun k_ => (P1_ k_ ∨ w.heap.size ≤ k_) ∧ some k_ ≠ (v117 : Value).ownBlock ∧ some k_ ≠ (.slice Ao28 x8_1.length co28 : Value).ownBlock ∧ k_ ≠ gb101 ∧ k_ ≠ gb106) ho0 (fun k_ hk_ => ⟨(.inr (Nat.le_trans (below_size (by repeat (first | (with_reducible first | exact HB.out | apply below_alloc | apply pw_below_drewN | apply below_drew1 | refine below_set ?_ GE101.out | refine below_set ?_ GE106.out) | exact HB.out))) hk_)), (Kd.fresh' (Kd.N_lt (zN HO_11.out)) k_ hk_), (Kd.fresh' (Kd.N_lt (zN HO_42.out)) k_ hk_), (Kd.freshB (zK BK101.out) k_ hk_), (Kd.freshB (zK BK106.out) k_ hk_)⟩)) (below_size (by repeat (first | (with_reducible first | exact HB.out | apply below_alloc | apply pw_below_drewN | apply below_drew1 | refine below_set ?_ GE101.out | refine below_set ?_ GE106.out) | exact HB.out)))); replace HO_11 := zNb HO_11 hb; replace HO_42 := zNb HO_42 hb; replace BK101 := zKb BK101 hb; replace BK106 := zKb BK106 hb; replace HB := zm (below_step (by repeat (first | (with_reducible first | exact HB.out | apply below_alloc | apply pw_below_drewN | apply below_drew1 | refine below_set ?_ GE101.out | refine below_set ?_ GE106.out) | exact HB.out)) hb); obtain ⟨Ao74, co74, eo74⟩ := Kd.V_slice HO135.out; subst eo74) | ((with_reducible refine gate_callee (f := 78) rfl ?_); refine zG (some 81) Try.func78 #[.slice Ao74 t133.length co74, .slice A1 l1.length c1] ?_; (with_reducible refine (api_ModPoly_int_78.calls k2 _ _ t133 _ _ l1 false _ (zC ((Kd.V_reads' HO135.out).2.2)) ((Kd.V_reads' HO135.out).2.1) (zC ((Kd.V_reads' HO_1.out).2.2)) ((Kd.V_reads' HO_1.out).2.1) A55.out).mono ?_); rintro e w' ⟨rfl, ⟨nd, rfl⟩⟩; refine ⟨_, rfl, ?_⟩))
       (first | go_roundg k2 | (simp only [show ∀ g_ : Nat, ({ block := g_, off := (ji21).toNat } : Addr) = ({ block := g_, off := 0 } : Addr).add (ji21).toNat from fun g_ => by simp [Addr.add]]; go_roundg k2))
       case measure => have := HK1.out; have := HK2.out; omega
       case rel => exact ⟨(x11_2), (t133), H', ⟨by have := HK1.out; have := HK2.out; omega⟩, ⟨zV (Kd.V_mono HO_1.out (fun _ hk => ⟨hk.1, ⟨hk.2.1, ⟨hk.2.2.2.1, hk.2.2.2.2⟩⟩⟩))⟩, ⟨zN (Kd.N_mono HO_11.out (fun _ hk => ⟨hk.1, ⟨hk.2.2.1, hk.2.2.2⟩⟩))⟩, ⟨zV (Kd.V_mono HO135.out (fun _ hk => ⟨hk.1, ⟨hk.2.1, ⟨hk.2.2.2.1, hk.2.2.2.2⟩⟩⟩))⟩, ⟨zK BK101.out⟩, ⟨zK BK106.out⟩, ⟨by repeat (first | (with_reducible first | exact HB.out | apply below_alloc | apply pw_below_drewN | apply below_drew1 | refine below_set ?_ GE101.out | refine below_set ?_ GE106.out) | exact HB.out)⟩⟩
      subst c56
      rw [if_pos rfl] at H
      have H' := zm H
      clear H
      have hnb57 := NB106_101.out
      have hnc57 := NB101_106.out
      obtain ⟨hcz58_0, hcz58_1, hfz58_0, hfz58_1⟩ := zf2 BK106
      go_wp2_with (first | ((with_reducible refine gate_callee (f := 77) rfl ?_); refine zG (some 78) Try.func77 #[.agg #[.int .i64 a0_0, .slice A0_1 l0_1.length c0_1], .slice Ao26 x9_1.length co26] ?_; (with_reducible refine (gFFrobenius.calls k2 a0_0 _ _ l0_1 _ _ x9_1 t133 _ (zC (Kd.C_below HR0_1.out HB.out)) HC0_1.out (zC ((Kd.V_reads' HO_9.out).2.2)) ((Kd.V_reads' HO_9.out).2.1) A54.out).mono ?_); rintro e w59 ⟨v134, rfl, ho0, hb⟩; refine ⟨_, rfl, ?_⟩; replace HO_1 := zVb HO_1 hb; replace HO_9 := zVb HO_9 hb; replace HO_10 := zVb HO_10 hb; have HO135 := zm (Kd.V_lower (Kd.V_mono (ok' := fun k_ => (P1_ k_ ∨ w.heap.size ≤ k_) ∧ some k_ ≠ (v117 : Value).ownBlock ∧ some k_ ≠ (.slice Ao28 x8_1.length co28 : Value).ownBlock ∧ k_ ≠ gb101 ∧ k_ ≠ gb106) ho0 (fun k_ hk_ => ⟨(.inr (Nat.le_trans (below_size (by repeat (first | (with_reducible first | exact HB.out | apply below_alloc | apply pw_below_drewN | apply below_drew1 | refine below_set ?_ GE101.out | refine below_set ?_ GE106.out) | exact HB.out))) hk_)), (Kd.fresh' (Kd.N_lt (zN HO_11.out)) k_ hk_), (Kd.fresh' (Kd.N_lt (zN HO_42.out)) k_ hk_), (Kd.freshB (zK BK101.out) k_ hk_), (Kd.freshB (zK BK106.out) k_ hk_)⟩)) (below_size (by repeat (first | (with_reducible first | exact HB.out | apply below_alloc | apply pw_below_drewN | apply below_drew1 | refine below_set ?_ GE101.out | refine below_set ?_ GE106.out) | exact HB.out)))); replace HO_11 := zNb HO_11 hb; replace HO_42 := zNb HO_42 hb; replace BK101 := zKb BK101 hb; replace BK106 := zKb BK106 hb; replace HB := zm (below_step (by repeat (first | (with_reducible first | exact HB.out | apply below_alloc | apply pw_below_drewN | apply below_drew1 | refine below_set ?_ GE101.out | refine below_set ?_ GE106.out) | exact HB.out)) hb); obtain ⟨Ao60, co60, eo60⟩ := Kd.V_slice HO135.out; subst eo60) | ((with_reducible refine gate_callee (f := 78) rfl ?_); refine zG (some 81) Try.func78 #[.slice Ao60 t133.length co60, .slice A1 l1.length c1] ?_; (with_reducible refine (api_ModPoly_int_78.calls k2 _ _ t133 _ _ l1 true _ (zC ((Kd.V_reads' HO135.out).2.2)) ((Kd.V_reads' HO135.out).2.1) (zC ((Kd.V_reads' HO_1.out).2.2)) ((Kd.V_reads' HO_1.out).2.1) A55.out).mono ?_); rintro e w' ⟨rfl, ⟨nd, rfl⟩⟩; refine ⟨_, rfl, ?_⟩; obtain ⟨Ao61, co61, eo61⟩ := Kd.N_slice HO_11.out; subst eo61))
      go_loopg [14, 84] k2 (fun kq v14 v84 w' => ∃ (x14_3 : List Int) (x84_3 : Int), v84 = .int .i64 x84_3 ∧ Aside0 (fi_MinPoly.l2 kq x14_3 x11_2 (x11_2.length : Int) x84_3 = some (r1, r2)) ∧ Aside0 (kq ≤ k2) ∧ Aside0 (Kd.R (Kd.int .i64) 3 w' w.heap.size (fun k_ => (w.heap.size ≤ k_)) v14 x14_3) ∧ Aside0 (Kd.N (Kd.slice 3 (Kd.int .i64)) 25 w' w.heap.size (fun k_ => (P1_ k_ ∨ w.heap.size ≤ k_) ∧ some k_ ≠ (v14 : Value).ownBlock ∧ k_ ≠ gb101 ∧ k_ ≠ gb106) (.slice Ao61 x11_2.length co61) x11_2) ∧ Aside0 (w'.heap[gb101]? = some (.cells #[.int .i64 a0_0, (.slice A0_1 l0_1.length c0_1)] 33 (0, 0))) ∧ Aside0 (w'.heap[gb106]? = some (.cells #[.int .i64 a0_0, (.slice A0_1 l0_1.length c0_1)] 68 (0, 0))) ∧ Aside0 (Below w.heap.size w w'))
      case atStart => exact ⟨(([] : List Int)), (0), zX, H', ⟨Nat.le_refl _⟩, ⟨by first | exact Kd.R_nil _ _ _ _ _ | exact Kd.N_nil _ _ _ _ _ | exact Kd.V_nil _ _ _ _ _ | exact Kd.Q_nil _ _ _ _ _ | exact Kd.S_nil _ _ _ _ _⟩, ⟨zN (Kd.N_mono HO_11.out (fun _ hk => ⟨hk.1, ⟨(by simp [Value.ownBlock]), ⟨hk.2.2.1, hk.2.2.2⟩⟩⟩))⟩, ⟨zK BK101.out⟩, ⟨zK BK106.out⟩, ⟨by repeat (first | (with_reducible first | exact HB.out | apply below_alloc | apply pw_below_drewN | apply below_drew1 | refine below_set ?_ GE101.out | refine below_set ?_ GE106.out) | exact HB.out)⟩⟩
      case round =>
       clear H'
       obtain ⟨x14_3, x84_3, rfl, HA, HK3, HO_14, HO_82, BK101, BK106, HB⟩ := hrel
       cases gk with
       | zero => exact absurd HA.out (by simp [fi_MinPoly.l2])
       | succ k3 =>
        have H := HA.out
        clear HA
        simp only [fi_MinPoly.l2] at H
        by_cases c62 : x84_3 < (x11_2.length : Int)
        rotate_left
        ·rw [if_neg c62] at H
         have c62b0 := decide_eq_false c62; clear c62
         simp only [Option.some.injEq, Prod.mk.injEq] at H
         obtain ⟨rfl, rfl⟩ := H
         go_wp2
         go_ret2
         exact ⟨_, by first | rfl | (simp [errW_none, errW_some] <;> rfl) | (simp only [← hji21]; first | rfl | (simp [errW_none, errW_some] <;> rfl)) | (simp [*, errW_none, errW_some] <;> rfl), zR HO_14.out, by repeat (first | (with_reducible first | exact HB.out | apply below_alloc | apply pw_below_drewN | apply below_drew1 | refine below_set ?_ GE101.out | refine below_set ?_ GE106.out) | exact HB.out)⟩
        rw [if_pos c62] at H
        have c62b0 := decide_eq_true c62; clear c62
        by_cases c63 : 0 ≤ x84_3
        rotate_left
        ·rw [if_neg c63] at H
         exact absurd H (by simp)
        rw [if_pos c63] at H
        have c63b0 := decide_eq_true c63; clear c63
        by_cases c64 : x84_3 < (x11_2.length : Int)
        rotate_left
        ·rw [if_neg c64] at H
         exact absurd H (by simp)
        rw [if_pos c64] at H
        have c64b0 := decide_eq_true c64; clear c64
        by_cases c65 : ((rd_L1 x11_2 x84_3).length : Int) > 0
        rotate_left
        ·rw [if_neg c65] at H
         have c65b0 : decide (0 < ((rd_L1 x11_2 x84_3).length : Int)) = false := decide_eq_false c65
         have c65b1 : decide (0 < (rd_L1 x11_2 x84_3).length) = false := decide_eq_false (by omega)
         clear c65
         by_cases c69 : x14_3.length < 17592186044416
         rotate_left
         ·rw [if_neg c69] at H
          exact absurd H (by simp)
         rw [if_pos c69] at H
         have LMc69 := zm c69
         clear c69
         obtain ⟨y142, Ny142⟩ := zA ((x14_3 ++ [0]) : List Int); rw [← Ny142.out] at H
         have H' := zm H
         clear H
         have p137 : 0 ≤ (x84_3 : Int) := zD
         have q137 : x84_3 < (x11_2.length : Int) := zD
         obtain ⟨ad137, A137_0, c137_0, e137, hx137_0, hl137_0, hi137_0⟩ := at_L1 (Kd.N_reads' HO_82.out).2.2 x84_3 p137 q137
         cases e137
         obtain ⟨ce137, hce137, hMe137, hcc137⟩ := Kd.N_get HO_82.out [] x84_3 p137 (by first | exact q137 | exact zD | (have e_ := (Kd.N_reads' HO_82.out).1; omega))
         obtain ⟨ua137_0, uc137_0, rfl, ul137_0, ge137_0⟩ := Kd.FK_slice_open hMe137
         have hv137_0 := hcc137 0 _ rfl
         rw [Nat.add_zero, show ((Kd.slice 3 (Kd.int .i64))).sz = 1 from rfl, Nat.mul_one] at hv137_0
         replace hv137_0 := Option.some.inj (hv137_0.symm.trans hx137_0)
         injection hv137_0 with hva_ hvn_ hvc_
         rw [hva_] at ge137_0
         rw [hvc_] at ul137_0
         have HL137_0 := zm (show Kd.V (Kd.int .i64) 3 _ w.heap.size _ _ (rd_L1 x11_2 x84_3) from Kd.V_mk ul137_0 ge137_0)
         clear hva_ hvn_ hvc_ ge137_0 ul137_0
         clear hcc137 hce137
         have HR137_0 := zm hi137_0
         have HC137_0 := zm hl137_0
         clear hi137_0 hl137_0
         replace p137 := eq_true p137
         replace q137 := eq_true q137
         go_wp2_with (first | ((with_reducible refine gate_builtin (b := .append) (xs := #[.tmp 94, .tmp 96]) rfl ?_); at_builtin; refine Kd.R_append (Kd.int .i64) (w0 := w) w.heap.size rfl (.tmp 94) (.tmp 96) 25 3 (.int .i64 0) 8 rfl Try.underlying25 info3 rfl (by decide) (by omega) u14 x14_3 0 [.int .i64 0] (fun k_ => (w.heap.size ≤ k_)) (fun _ => False) rfl rfl ?aP (fun _ hk => hk.elim) ?aF ?aO ?aB ?aS ?aL ?_; (case aP => exact rfl); (case aB => exact (by repeat (first | (with_reducible first | exact HB.out | apply below_alloc | apply pw_below_drewN | apply below_drew1 | refine below_set ?_ GE101.out | refine below_set ?_ GE106.out) | exact HB.out))); (case aF => exact (fun k_ hk => (Nat.le_trans (below_size (by repeat (first | (with_reducible first | exact HB.out | apply below_alloc | apply pw_below_drewN | apply below_drew1 | refine below_set ?_ GE101.out | refine below_set ?_ GE106.out) | exact HB.out))) hk))); (case aO => exact (zR HO_14.out)); (case aS => exact (below_size (by repeat (first | (with_reducible first | exact HB.out | apply below_alloc | apply pw_below_drewN | apply below_drew1 | refine below_set ?_ GE101.out | refine below_set ?_ GE106.out) | exact HB.out)))); (case aL => have := LMc69.out; omega); intro v143 w70 ho hb hg hat; rw [← Ny142.out] at ho; replace HO_82 := zm (Kd.N_afterv (ok := (fun k_ => (P1_ k_ ∨ w.heap.size ≤ k_) ∧ k_ ≠ gb101 ∧ k_ ≠ gb106)) (zN (Kd.N_mono HO_82.out (fun _ hk => ⟨⟨hk.1, ⟨hk.2.2.1, hk.2.2.2⟩⟩, hk.2.1⟩))) hg hat); replace BK101 := zm (blk_grown (g := gb101) (o := .cells #[.int .i64 a0_0, .slice A0_1 l0_1.length c0_1] 33 (0, 0)) (zK BK101.out) hg (Kd.R_ne HO_14.out BK101.out (by decide))); replace BK106 := zm (blk_grown (g := gb106) (o := .cells #[.int .i64 a0_0, .slice A0_1 l0_1.length c0_1] 68 (0, 0)) (zK BK106.out) hg (Kd.R_ne HO_14.out BK106.out (by decide))); replace HL137_0 := zm (Kd.V_afterv (ok := (fun k_ => (P1_ k_ ∨ w.heap.size ≤ k_) ∧ some k_ ≠ (.slice (some ad137) x11_2.length co61 : Value).ownBlock ∧ k_ ≠ gb101 ∧ k_ ≠ gb106)) (zV (Kd.V_mono HL137_0.out (fun _ hk => ⟨⟨hk.1.1, ⟨hk.2, ⟨hk.1.2.2.1, hk.1.2.2.2⟩⟩⟩, hk.1.2.1⟩))) hg hat); replace HB := zm (hb); have HO144 := zm (ho); clear HO_14; clear ho hb hg hat))
         (first | go_roundg k3 | (simp only [show ∀ g_ : Nat, ({ block := g_, off := (ji21).toNat } : Addr) = ({ block := g_, off := 0 } : Addr).add (ji21).toNat from fun g_ => by simp [Addr.add]]; go_roundg k3))
         case measure => have := HK1.out; have := HK2.out; have := HK3.out; omega
         case rel => exact ⟨(y142), (wrap64 (x84_3 + 1)), zX, H', ⟨by have := HK1.out; have := HK2.out; have := HK3.out; omega⟩, ⟨zR HO144.out⟩, ⟨zN (Kd.N_mono HO_82.out (fun _ hk => ⟨hk.1.1, ⟨hk.2, ⟨hk.1.2.1, hk.1.2.2⟩⟩⟩))⟩, ⟨zK BK101.out⟩, ⟨zK BK106.out⟩, ⟨by repeat (first | (with_reducible first | exact HB.out | apply below_alloc | apply pw_below_drewN | apply below_drew1 | refine below_set ?_ GE101.out | refine below_set ?_ GE106.out) | exact HB.out)⟩⟩
        rw [if_pos c65] at H
        have c65b0 : decide (0 < ((rd_L1 x11_2 x84_3).length : Int)) = true := decide_eq_true c65
        have c65b1 : decide (0 < (rd_L1 x11_2 x84_3).length) = true := decide_eq_true (by omega)
        clear c65
        by_cases c66 : 0 < ((rd_L1 x11_2 x84_3).length : Int)
        rotate_left
        ·rw [if_neg c66] at H
         exact absurd H (by simp)
        rw [if_pos c66] at H
        have c66b0 : decide (0 < ((rd_L1 x11_2 x84_3).length : Int)) = true := decide_eq_true c66
        have c66b1 : decide (0 < (rd_L1 x11_2 x84_3).length) = true := decide_eq_true (by omega)
        clear c66
        by_cases c67 : x14_3.length < 17592186044416
        rotate_left
        ·rw [if_neg c67] at H
         exact absurd H (by simp)
        rw [if_pos c67] at H
        have LMc67 := zm c67
        clear c67
        obtain ⟨y139, Ny139⟩ := zA ((x14_3 ++ [rd (rd_L1 x11_2 x84_3) 0]) : List Int); rw [← Ny139.out] at H
        have H' := zm H
        clear H
        have p137 : 0 ≤ (x84_3 : Int) := zD
        have q137 : x84_3 < (x11_2.length : Int) := zD
        obtain ⟨ad137, A137_0, c137_0, e137, hx137_0, hl137_0, hi137_0⟩ := at_L1 (Kd.N_reads' HO_82.out).2.2 x84_3 p137 q137
        cases e137
        obtain ⟨ce137, hce137, hMe137, hcc137⟩ := Kd.N_get HO_82.out [] x84_3 p137 (by first | exact q137 | exact zD | (have e_ := (Kd.N_reads' HO_82.out).1; omega))
        obtain ⟨ua137_0, uc137_0, rfl, ul137_0, ge137_0⟩ := Kd.FK_slice_open hMe137
        have hv137_0 := hcc137 0 _ rfl
        rw [Nat.add_zero, show ((Kd.slice 3 (Kd.int .i64))).sz = 1 from rfl, Nat.mul_one] at hv137_0
        replace hv137_0 := Option.some.inj (hv137_0.symm.trans hx137_0)
        injection hv137_0 with hva_ hvn_ hvc_
        rw [hva_] at ge137_0
        rw [hvc_] at ul137_0
        have HL137_0 := zm (show Kd.V (Kd.int .i64) 3 _ w.heap.size _ _ (rd_L1 x11_2 x84_3) from Kd.V_mk ul137_0 ge137_0)
        clear hva_ hvn_ hvc_ ge137_0 ul137_0
        clear hcc137 hce137
        have HR137_0 := zm hi137_0
        have HC137_0 := zm hl137_0
        clear hi137_0 hl137_0
        replace p137 := eq_true p137
        replace q137 := eq_true q137
        have p138 : 0 ≤ (0 : Int) := (by omega)
        have q138 : 0 < ((rd_L1 x11_2 x84_3).length : Int) := zD
        obtain ⟨ad138, e138, hx138_0⟩ := Kd.at_int (by repeat (first | (with_reducible exact HR137_0.out) | (with_reducible refine Kd.C_alloc ?_ _) | (with_reducible refine Kd.C_drewN ?_ _) | (with_reducible refine Kd.C_drew ?_) | exact HR137_0.out)) 0 p138 q138
        cases e138
        have qi138 : (0 < (rd_L1 x11_2 x84_3).length) = True := eq_true (by omega)
        (try rw [show ((0 : Int)).toNat = 0 from rfl] at hx138_0)
        (try rw [Addr.add_zero'] at hx138_0)
        replace p138 := eq_true p138
        replace q138 := eq_true q138
        go_wp2_with (first | ((with_reducible refine gate_builtin (b := .append) (xs := #[.tmp 94, .tmp 96]) rfl ?_); at_builtin; refine Kd.R_append (Kd.int .i64) (w0 := w) w.heap.size rfl (.tmp 94) (.tmp 96) 25 3 (.int .i64 0) 8 rfl Try.underlying25 info3 rfl (by decide) (by omega) u14 x14_3 (rd (rd_L1 x11_2 x84_3) 0) [.int .i64 (rd (rd_L1 x11_2 x84_3) 0)] (fun k_ => (w.heap.size ≤ k_)) (fun _ => False) rfl rfl ?aP (fun _ hk => hk.elim) ?aF ?aO ?aB ?aS ?aL ?_; (case aP => exact rfl); (case aB => exact (by repeat (first | (with_reducible first | exact HB.out | apply below_alloc | apply pw_below_drewN | apply below_drew1 | refine below_set ?_ GE101.out | refine below_set ?_ GE106.out) | exact HB.out))); (case aF => exact (fun k_ hk => (Nat.le_trans (below_size (by repeat (first | (with_reducible first | exact HB.out | apply below_alloc | apply pw_below_drewN | apply below_drew1 | refine below_set ?_ GE101.out | refine below_set ?_ GE106.out) | exact HB.out))) hk))); (case aO => exact (zR HO_14.out)); (case aS => exact (below_size (by repeat (first | (with_reducible first | exact HB.out | apply below_alloc | apply pw_below_drewN | apply below_drew1 | refine below_set ?_ GE101.out | refine below_set ?_ GE106.out) | exact HB.out)))); (case aL => have := LMc67.out; omega); intro v140 w68 ho hb hg hat; rw [← Ny139.out] at ho; replace HO_82 := zm (Kd.N_afterv (ok := (fun k_ => (P1_ k_ ∨ w.heap.size ≤ k_) ∧ k_ ≠ gb101 ∧ k_ ≠ gb106)) (zN (Kd.N_mono HO_82.out (fun _ hk => ⟨⟨hk.1, ⟨hk.2.2.1, hk.2.2.2⟩⟩, hk.2.1⟩))) hg hat); replace BK101 := zm (blk_grown (g := gb101) (o := .cells #[.int .i64 a0_0, .slice A0_1 l0_1.length c0_1] 33 (0, 0)) (zK BK101.out) hg (Kd.R_ne HO_14.out BK101.out (by decide))); replace BK106 := zm (blk_grown (g := gb106) (o := .cells #[.int .i64 a0_0, .slice A0_1 l0_1.length c0_1] 68 (0, 0)) (zK BK106.out) hg (Kd.R_ne HO_14.out BK106.out (by decide))); replace HL137_0 := zm (Kd.V_afterv (ok := (fun k_ => (P1_ k_ ∨ w.heap.size ≤ k_) ∧ some k_ ≠ (.slice (some ad137) x11_2.length co61 : Value).ownBlock ∧ k_ ≠ gb101 ∧ k_ ≠ gb106)) (zV (Kd.V_mono HL137_0.out (fun _ hk => ⟨⟨hk.1.1, ⟨hk.2, ⟨hk.1.2.2.1, hk.1.2.2.2⟩⟩⟩, hk.1.2.1⟩))) hg hat); replace HB := zm (hb); have HO141 := zm (ho); clear HO_14; clear ho hb hg hat))
        (first | go_roundg k3 | (simp only [show ∀ g_ : Nat, ({ block := g_, off := (ji21).toNat } : Addr) = ({ block := g_, off := 0 } : Addr).add (ji21).toNat from fun g_ => by simp [Addr.add]]; go_roundg k3))
        case measure => have := HK1.out; have := HK2.out; have := HK3.out; omega
        case rel => exact ⟨(y139), (wrap64 (x84_3 + 1)), zX, H', ⟨by have := HK1.out; have := HK2.out; have := HK3.out; omega⟩, ⟨zR HO141.out⟩, ⟨zN (Kd.N_mono HO_82.out (fun _ hk => ⟨hk.1.1, ⟨hk.2, ⟨hk.1.2.1, hk.1.2.2⟩⟩⟩))⟩, ⟨zK BK101.out⟩, ⟨zK BK106.out⟩, ⟨by repeat (first | (with_reducible first | exact HB.out | apply below_alloc | apply pw_below_drewN | apply below_drew1 | refine below_set ?_ GE101.out | refine below_set ?_ GE106.out) | exact HB.out)⟩⟩
     rw [if_pos c31] at H
     have c31b0 := decide_eq_true c31; clear c31
     by_cases c32 : 0 ≤ x44_2
     rotate_left
     ·rw [if_neg c32] at H
      exact absurd H (by simp)
     rw [if_pos c32] at H
     have c32b0 := decide_eq_true c32; clear c32
     by_cases c33 : x44_2 < (x8_1.length : Int)
     rotate_left
     ·rw [if_neg c33] at H
      exact absurd H (by simp)
     rw [if_pos c33] at H
     have c33b0 := decide_eq_true c33; clear c33
     obtain ⟨ji34, hji34⟩ : ∃ j_ : Int, (wrap64 (x44_2 + 1)) = j_ := ⟨_, rfl⟩
     first | rw [hji34] at H | simp only [hji34] at H
     have hji34w : (IntKind.i64.wrap (x44_2 + 1)) = ji34 := (i64_w _).trans hji34
     by_cases c35 : 0 ≤ (ji34)
     rotate_left
     ·rw [if_neg c35] at H
      exact absurd H (by simp)
     rw [if_pos c35] at H
     have c35b0 := decide_eq_true c35; clear c35
     by_cases c36 : (ji34) < (x11_2.length : Int)
     rotate_left
     ·rw [if_neg c36] at H
      exact absurd H (by simp)
     rw [if_pos c36] at H
     have c36b0 := decide_eq_true c36; clear c36
     obtain ⟨t121, A37, H⟩ := zO H
     obtain ⟨y124, Ny124, H⟩ := zY H
     by_cases c39 : x44_2 < (x11_2.length : Int)
     rotate_left
     ·rw [if_neg c39] at H
      exact absurd H (by simp)
     rw [if_pos c39] at H
     have c39b0 := decide_eq_true c39; clear c39
     obtain ⟨t126, A40, H⟩ := zO H
     obtain ⟨t129, A41, H⟩ := zO H
     obtain ⟨y132, Ny132⟩ := zA ((y124.set (x44_2 : Int).toNat t129) : List (List Int)); rw [← Ny132.out] at H
     have H' := zm H
     clear H
     have p119 : 0 ≤ (x44_2 : Int) := zD
     have q119 : x44_2 < (x8_1.length : Int) := zD
     obtain ⟨ad119, A119_0, c119_0, e119, hx119_0, hl119_0, hi119_0⟩ := at_L1 (Kd.N_reads' HO_42.out).2.2 x44_2 p119 q119
     cases e119
     obtain ⟨ce119, hce119, hMe119, hcc119⟩ := Kd.N_get HO_42.out [] x44_2 p119 (by first | exact q119 | exact zD | (have e_ := (Kd.N_reads' HO_42.out).1; omega))
     obtain ⟨ua119_0, uc119_0, rfl, ul119_0, ge119_0⟩ := Kd.FK_slice_open hMe119
     have hv119_0 := hcc119 0 _ rfl
     rw [Nat.add_zero, show ((Kd.slice 3 (Kd.int .i64))).sz = 1 from rfl, Nat.mul_one] at hv119_0
     replace hv119_0 := Option.some.inj (hv119_0.symm.trans hx119_0)
     injection hv119_0 with hva_ hvn_ hvc_
     rw [hva_] at ge119_0
     rw [hvc_] at ul119_0
     have HL119_0 := zm (show Kd.V (Kd.int .i64) 3 _ w.heap.size _ _ (rd_L1 x8_1 x44_2) from Kd.V_mk ul119_0 ge119_0)
     clear hva_ hvn_ hvc_ ge119_0 ul119_0
     clear hcc119 hce119
     have HR119_0 := zm hi119_0
     have HC119_0 := zm hl119_0
     clear hi119_0 hl119_0
     replace p119 := eq_true p119
     replace q119 := eq_true q119
     try go_wp2
     replace HO_1 := zm (Kd.V_drew HO_1.out)
     replace HO_9 := zm (Kd.V_drew HO_9.out)
     replace HO_10 := zm (Kd.V_drew HO_10.out)
     replace HO_11 := zm (Kd.N_drew HO_11.out)
     replace HO_42 := zm (Kd.N_drew HO_42.out)
     replace HL119_0 := zm (Kd.V_drew HL119_0.out)
     replace BK101 := zm (blk_drew BK101.out)
     replace BK106 := zm (blk_drew BK106.out)
     replace HR119_0 := zm (Kd.C_drew HR119_0.out)
     replace HB := zm (below_drew1 HB.out)
     obtain ⟨Ao44, co44, eo44⟩ := Kd.N_slice HO_11.out
     (first | subst eo44 | (injection eo44 with f1_ f2_ f3_; have f4_ := f1_.symm; have f5_ := f3_.symm; clear f1_ f2_ f3_; subst f4_; subst f5_))
     have p120 : 0 ≤ ((ji34) : Int) := zD
     have q120 : (ji34) < (x11_2.length : Int) := zD
     obtain ⟨ad120, A120_0, c120_0, e120, hx120_0, hl120_0, hi120_0⟩ := at_L1 (Kd.N_reads' HO_11.out).2.2 (ji34) p120 q120
     cases e120
     obtain ⟨ce120, hce120, hMe120, hcc120⟩ := Kd.N_get HO_11.out [] (ji34) p120 (by first | exact q120 | exact zD | (have e_ := (Kd.N_reads' HO_11.out).1; omega))
     obtain ⟨ua120_0, uc120_0, rfl, ul120_0, ge120_0⟩ := Kd.FK_slice_open hMe120
     have hv120_0 := hcc120 0 _ rfl
     rw [Nat.add_zero, show ((Kd.slice 3 (Kd.int .i64))).sz = 1 from rfl, Nat.mul_one] at hv120_0
     replace hv120_0 := Option.some.inj (hv120_0.symm.trans hx120_0)
     injection hv120_0 with hva_ hvn_ hvc_
     rw [hva_] at ge120_0
     rw [hvc_] at ul120_0
     have HL120_0 := zm (show Kd.V (Kd.int .i64) 3 _ w.heap.size _ _ (rd_L1 x11_2 (ji34)) from Kd.V_mk ul120_0 ge120_0)
     clear hva_ hvn_ hvc_ ge120_0 ul120_0
     clear hcc120 hce120
     have HR120_0 := zm hi120_0
     have HC120_0 := zm hl120_0
     clear hi120_0 hl120_0
     replace p120 := eq_true p120
     replace q120 := eq_true q120
     refine start_ (n := 13) (S := fun w' => w'.cell? ⟨gb106, 0, none⟩ = some (.int .i64 a0_0) ∧ w'.cell? ⟨gb106, 1, none⟩ = some (.slice A0_1 l0_1.length c0_1) ∧ w'.cell? (ad120.add ((ji34)).toNat) = some (.slice A120_0 (rd_L1 x11_2 (ji34)).length c120_0)) (ds := [12]) #[false, false, false, false, false, false, false, false, false, false, false, false, false] (by kernel_rfl) rfl rfl ⟨(blk_cell BK106.out 0).trans rfl, (blk_cell BK106.out 1).trans rfl, hx120_0⟩ (fun hHeld => ?_); refine with_tabW fi_MinPoly.tab12 fi_MinPoly.bits12 (fun HT_ HW_ => ?_)
     generalize wr.drew = w43 at HO_1 HO_9 HO_10 HO_11 HO_42 HL119_0 BK101 BK106 HR119_0 HB HL120_0 HR120_0 hx120_0 hHeld ⊢
     refine zP 0 49 ?_; refine zP 1 50 ?_; refine zP 2 51 ?_; refine zP 4 53 ?_; refine zP 5 54 ?_; refine zP 6 55 ?_; refine zP 7 56 ?_; refine zP 9 58 ?_
     refine take_ (i := 3) (N := some 52) (v := ?_) (a' := ?_) #[true, true, true, true, true, true, true, true, false, true, false, false, false] rfl rfl (take_ofW HT_.out HW_.out (by kernel_rfl)) (fun _ _ _ h => h) (Or.inl ⟨by rfl, ?_⟩) hHeld ?_ ?_
     rotate_left
     ·rintro w' ⟨s0, s1, s2⟩
      go_simp
      with_reducible rfl
     rotate_left
     ·simp only [Act.put, List.setIfInBounds_toArray, List.set_cons_zero, List.set_cons_succ, i64_w, i32_w]
      rfl
     refine take_ (i := 8) (N := some 57) (v := ?_) (a' := ?_) #[true, true, true, true, true, true, true, true, true, true, false, false, false] rfl rfl (take_ofW HT_.out HW_.out (by kernel_rfl)) (fun _ _ _ h => h) (Or.inl ⟨by rfl, ?_⟩) hHeld ?_ ?_
     rotate_left
     ·rintro w' ⟨s0, s1, s2⟩
      go_simp
      with_reducible rfl
     rotate_left
     ·simp only [Act.put, List.setIfInBounds_toArray, List.set_cons_zero, List.set_cons_succ, i64_w, i32_w]
      rfl
     refine one_ (i := 10) (N := some 59) #[true, true, true, true, true, true, true, true, true, true, true, false, false] rfl rfl (one_of HT_.out (by kernel_rfl)) (by decide) (fun K hK => ?_)
     refine goes_ Try.func76 (by kernel_rfl) rfl #[.agg #[.int .i64 a0_0, .slice A0_1 l0_1.length c0_1], .slice A120_0 (rd_L1 x11_2 (ji34)).length c120_0, .slice A119_0 (rd_L1 x8_1 x44_2).length c119_0] (by rfl) rfl rfl (by (try simp only [List.map_toArray, List.map_cons, List.map_nil]); first | done | (simp only [hji34]; rfl) | rfl | (simp only [List.length_drop, List.length_take]; rfl)) ?_
     with_reducible refine (gFAdd.calls k2 a0_0 _ _ l0_1 _ _ (rd_L1 x11_2 (ji34)) _ _ (rd_L1 x8_1 x44_2) t121 _ ?side1 ?side2 ?side3 ?side4 ?side5 ?side6 A37.out).mono ?_
     (case side1 => exact zC (Kd.C_below HR0_1.out HB.out))
     (case side2 => exact HC0_1.out)
     (case side3 => repeat (first | exact (by repeat (first | (with_reducible exact HR120_0.out) | (with_reducible refine Kd.C_alloc ?_ _) | (with_reducible refine Kd.C_drewN ?_ _) | (with_reducible refine Kd.C_drew ?_) | exact HR120_0.out)) | (with_reducible refine Kd.C_alloc ?_ _) | (with_reducible refine Kd.C_drewN ?_ _) | (with_reducible refine Kd.C_drew ?_)))
     (case side4 => exact HC120_0.out)
     (case side5 => repeat (first | exact (by repeat (first | (with_reducible exact HR119_0.out) | (with_reducible refine Kd.C_alloc ?_ _) | (with_reducible refine Kd.C_drewN ?_ _) | (with_reducible refine Kd.C_drew ?_) | exact HR119_0.out)) | (with_reducible refine Kd.C_alloc ?_ _) | (with_reducible refine Kd.C_drewN ?_ _) | (with_reducible refine Kd.C_drew ?_)))
     (case side6 => exact HC119_0.out)
     rintro e w45 ⟨v122, rfl, ho0, hb⟩
     have HS2_ := (hb.cell (World.block_lt_of_cell? _ _ (hHeld.2.2))).trans (hHeld.2.2)
     refine ⟨_, rfl, ?_⟩
     replace HO_1 := zVb HO_1 hb
     replace HO_9 := zVb HO_9 hb
     replace HO_10 := zVb HO_10 hb
     replace HL119_0 := zVb HL119_0 hb
     replace HL120_0 := zVb HL120_0 hb
     have HO123 := zm (Kd.V_lower (Kd.V_mono (ok' := fun k_ => (P1_ k_ ∨ w.heap.size ≤ k_) ∧ some k_ ≠ (.slice (some ad120) x11_2.length co44 : Value).ownBlock ∧ some k_ ≠ (.slice (some ad119) x8_1.length co28 : Value).ownBlock ∧ k_ ≠ gb101 ∧ k_ ≠ gb106) ho0 (fun k_ hk_ => ⟨(.inr (Nat.le_trans (below_size (by repeat (first | (with_reducible first | exact HB.out | apply below_alloc | apply pw_below_drewN | apply below_drew1 | refine below_set ?_ GE101.out | refine below_set ?_ GE106.out) | exact HB.out))) hk_)), (Kd.fresh' (Kd.N_lt (zN HO_11.out)) k_ hk_), (Kd.fresh' (Kd.N_lt (zN HO_42.out)) k_ hk_), (Kd.freshB (zK BK101.out) k_ hk_), (Kd.freshB (zK BK106.out) k_ hk_)⟩)) (below_size (by repeat (first | (with_reducible first | exact HB.out | apply below_alloc | apply pw_below_drewN | apply below_drew1 | refine below_set ?_ GE101.out | refine below_set ?_ GE106.out) | exact HB.out))))
     replace HO_11 := zNb HO_11 hb
     replace HO_42 := zNb HO_42 hb
     replace BK101 := zKb BK101 hb
     replace BK106 := zKb BK106 hb
     replace HR119_0 := zm (Kd.C_below (by repeat (first | (with_reducible exact HR119_0.out) | (with_reducible refine Kd.C_alloc ?_ _) | (with_reducible refine Kd.C_drewN ?_ _) | (with_reducible refine Kd.C_drew ?_) | exact HR119_0.out)) hb)
     replace HR120_0 := zm (Kd.C_below (by repeat (first | (with_reducible exact HR120_0.out) | (with_reducible refine Kd.C_alloc ?_ _) | (with_reducible refine Kd.C_drewN ?_ _) | (with_reducible refine Kd.C_drew ?_) | exact HR120_0.out)) hb)
     replace HB := zm (below_step (by repeat (first | (with_reducible first | exact HB.out | apply below_alloc | apply pw_below_drewN | apply below_drew1 | refine below_set ?_ GE101.out | refine below_set ?_ GE106.out) | exact HB.out)) hb)
     (try clear hb)
     (try clear hb2)
     (try clear hk)
     (try clear hi)
     (try clear ho0)
     have p38 : 0 ≤ ((ji34) : Int) := zD
     have q38 : ((ji34) : Int) < ((x11_2.length : Int) : Int) := zD
     obtain ⟨go38, co38, eo38, gb38, gl38, cl38, HG38⟩ := Kd.N_form HO_11.out (by omega)
     (first | cases eo38 | (injection eo38 with ea_ en_ ec_; (first | subst ea_ | (injection ea_ with ea_; subst ea_)); subst ec_; clear en_))
     have GB38 := zm gb38
     have GG38 := zm HG38
     clear gb38 gl38 HG38
     (first | simp only [add_plain] at hx120_0 | skip)
     obtain ⟨ce38, hcl38, hM38, hcc38, hfr38⟩ := Kd.N_elem HO_11.out [] ((ji34) : Int) p38 q38
     obtain ⟨ua38_0, uc38_0, rfl, ul38_0, ge38_0⟩ := Kd.FK_slice_open hM38
     have hx38_0 := hcc38 0 _ rfl
     have hf38_0 := hfr38 0
     (try simp only [show ((Kd.slice 3 (Kd.int .i64))).sz = 1 from rfl, Nat.mul_one, Nat.add_zero] at hx38_0)
     (try simp only [show ((Kd.slice 3 (Kd.int .i64))).sz = 1 from rfl, Nat.mul_one, Nat.add_zero] at hf38_0)
     clear hcl38 hcc38 hfr38 hM38
     replace p38 := eq_true p38
     replace q38 := eq_true q38
     have HX46 := zm (show Kd.N (Kd.slice 3 (Kd.int .i64)) 25 _ w.heap.size (fun k_ => (P1_ k_ ∨ w.heap.size ≤ k_) ∧ some k_ ≠ (.slice (some ad119) x8_1.length co28 : Value).ownBlock ∧ k_ ≠ gb101 ∧ k_ ≠ gb106) (.slice (some ⟨go38, 0, none⟩) x11_2.length co44) x11_2 from (Kd.N_mono (HO_11.out) (fun k_ hk => ⟨hk.1, ⟨hk.2.1, ⟨hk.2.2.1, hk.2.2.2⟩⟩⟩)))
     obtain ⟨ce46, hcl46, hM46, hcc46, hfr46⟩ := Kd.N_elem HX46.out [] ((ji34) : Int) zD (by have h_ : ((ji34) : Int) < ((x11_2.length : Int) : Int) := zD; first | exact h_ | (have e_ := (Kd.N_reads' HO_11.out).1; omega) | simpa using h_)
     obtain ⟨ua46_0, uc46_0, rfl, ul46_0, ge46_0⟩ := Kd.FK_slice_open hM46
     obtain ⟨Az122, cz122, ez_, _⟩ := HO123.out
     subst ez_
     have z0_ := HO123.out
     have z_ := Kd.V_mono (ok' := (fun k_ => ((fun k_ => (P1_ k_ ∨ w.heap.size ≤ k_) ∧ some k_ ≠ (.slice (some ad119) x8_1.length co28 : Value).ownBlock ∧ k_ ≠ gb101 ∧ k_ ≠ gb106)) k_ ∧ k_ ≠ go38)) z0_ (fun k_ hk => ⟨⟨hk.1, ⟨hk.2.2.1, ⟨hk.2.2.2.1, hk.2.2.2.2⟩⟩⟩, fun e_ => (hk.2.1) (by rw [e_]; rfl)⟩)
     have HP46 := (Kd.N_seg HX46.out ((ji34) : Int) zD (by have h_ : ((ji34) : Int) < ((x11_2.length : Int) : Int) := zD; first | exact h_ | (have e_ := (Kd.N_reads' HO_11.out).1; omega) | simpa using h_) (seg := [(Value.slice Az122 t121.length cz122)]) (j := 0) hcl46 hcc46 (show 1 ≤ 1 from by decide) (x' := t121) (Kd.FK_slice_mk (Kd.V_reads' z_).2.1 (Kd.V_F z_)) (fun _ hk => hk)).1
     clear z_ z0_
     (try simp only [show ((Kd.slice 3 (Kd.int .i64))).sz = 1 from rfl, Nat.mul_one, Nat.add_zero] at HP46)
     rw [← Ny124.out] at HP46
     have HQ46 := zm HP46
     clear hcl46 hcc46 hfr46 hM46 HP46
     refine hK.out _ _ ⟨(blk_cell BK106.out 0).trans rfl, (blk_cell BK106.out 1).trans rfl, HS2_⟩ (fun hHeld => ?_)
     clear hK K
     refine norm_ (a' := ?_) ?_ ?_
     rotate_left
     ·show Act.put _ (some 59) _ = _
      simp only [Act.put, List.setIfInBounds_toArray, List.set_cons_zero, List.set_cons_succ, i64_w, i32_w]
      rfl
     refine zP 11 60 ?_
     refine last_ (i := 12) (N := none) #[true, true, true, true, true, true, true, true, true, true, true, true, true] rfl rfl (one_of HT_.out (by kernel_rfl)) (by decide) (fun K hK => ?_)
     refine skip_ (w1 := ?_) (by rfl) rfl ?_ ?_
     rotate_left
     ·go_simp
      rfl
     refine hK.out _ _ ?_
     clear hK K
     refine done_ (done_of HT_.out (by kernel_rfl)) ?_
     try go_wp2
     have n0_ : Aside0 (Kd.V (Kd.int .i64) 3 (w45.setCell ⟨go38, ((ji34) : Int).toNat, none⟩ ((Value.slice Az122 t121.length cz122))) w.heap.size (fun k_ => (P1_ k_ ∨ w.heap.size ≤ k_) ∧ some k_ ≠ (.slice (some ⟨go38, 0, none⟩) x11_2.length co44 : Value).ownBlock ∧ some k_ ≠ (.slice (some ad119) x8_1.length co28 : Value).ownBlock ∧ k_ ≠ gb101 ∧ k_ ≠ gb106) (.slice A1 l1.length c1) l1) := ⟨zV (Kd.V_mono (Kd.V_far (p := ⟨go38, ((ji34) : Int).toNat, none⟩) (Kd.V_mono HO_1.out (fun k_ hk => (⟨hk, fun e_ => hk.2.1 (by rw [e_]; rfl)⟩ : _ ∧ k_ ≠ go38))) (fun _ hk => hk.2) ((Value.slice Az122 t121.length cz122))) (fun _ hk => ⟨hk.1.1, ⟨hk.1.2.1, ⟨hk.1.2.2.1, ⟨hk.1.2.2.2.1, hk.1.2.2.2.2⟩⟩⟩⟩))⟩
     have n1_ : Aside0 (Kd.V (Kd.int .i64) 3 (w45.setCell ⟨go38, ((ji34) : Int).toNat, none⟩ ((Value.slice Az122 t121.length cz122))) w.heap.size (fun k_ => (P1_ k_ ∨ w.heap.size ≤ k_) ∧ some k_ ≠ (.slice (some ⟨go38, 0, none⟩) x11_2.length co44 : Value).ownBlock ∧ some k_ ≠ (.slice (some ad119) x8_1.length co28 : Value).ownBlock ∧ k_ ≠ gb101 ∧ k_ ≠ gb106) (.slice Ao26 x9_1.length co26) x9_1) := ⟨zV (Kd.V_mono (Kd.V_far (p := ⟨go38, ((ji34) : Int).toNat, none⟩) (Kd.V_mono HO_9.out (fun k_ hk => (⟨hk, fun e_ => hk.2.1 (by rw [e_]; rfl)⟩ : _ ∧ k_ ≠ go38))) (fun _ hk => hk.2) ((Value.slice Az122 t121.length cz122))) (fun _ hk => ⟨hk.1.1, ⟨hk.1.2.1, ⟨hk.1.2.2.1, ⟨hk.1.2.2.2.1, hk.1.2.2.2.2⟩⟩⟩⟩))⟩
     have n2_ : Aside0 (Kd.V (Kd.int .i64) 3 (w45.setCell ⟨go38, ((ji34) : Int).toNat, none⟩ ((Value.slice Az122 t121.length cz122))) w.heap.size (fun k_ => (P1_ k_ ∨ w.heap.size ≤ k_) ∧ some k_ ≠ (.slice (some ⟨go38, 0, none⟩) x11_2.length co44 : Value).ownBlock ∧ some k_ ≠ (.slice (some ad119) x8_1.length co28 : Value).ownBlock ∧ k_ ≠ gb101 ∧ k_ ≠ gb106) v114 t113) := ⟨zV (Kd.V_mono (Kd.V_far (p := ⟨go38, ((ji34) : Int).toNat, none⟩) (Kd.V_mono HO_10.out (fun k_ hk => (⟨hk, fun e_ => hk.2.1 (by rw [e_]; rfl)⟩ : _ ∧ k_ ≠ go38))) (fun _ hk => hk.2) ((Value.slice Az122 t121.length cz122))) (fun _ hk => ⟨hk.1.1, ⟨hk.1.2.1, ⟨hk.1.2.2.1, ⟨hk.1.2.2.2.1, hk.1.2.2.2.2⟩⟩⟩⟩))⟩
     have n3_ : Aside0 (Kd.N (Kd.slice 3 (Kd.int .i64)) 25 (w45.setCell ⟨go38, ((ji34) : Int).toNat, none⟩ ((Value.slice Az122 t121.length cz122))) w.heap.size (fun k_ => (P1_ k_ ∨ w.heap.size ≤ k_) ∧ some k_ ≠ (.slice (some ad119) x8_1.length co28 : Value).ownBlock ∧ k_ ≠ gb101 ∧ k_ ≠ gb106) (.slice (some ⟨go38, 0, none⟩) x11_2.length co44) y124) := ⟨by exact HQ46.out⟩
     have n4_ : Aside0 (Kd.N (Kd.slice 3 (Kd.int .i64)) 25 (w45.setCell ⟨go38, ((ji34) : Int).toNat, none⟩ ((Value.slice Az122 t121.length cz122))) w.heap.size (fun k_ => (P1_ k_ ∨ w.heap.size ≤ k_) ∧ some k_ ≠ (.slice (some ⟨go38, 0, none⟩) x11_2.length co44 : Value).ownBlock ∧ k_ ≠ gb101 ∧ k_ ≠ gb106) (.slice (some ad119) x8_1.length co28) x8_1) := ⟨zN (Kd.N_mono (Kd.N_far (p := ⟨go38, ((ji34) : Int).toNat, none⟩) (Kd.N_mono HO_42.out (fun k_ hk => (⟨hk, fun e_ => hk.2.1 (by rw [e_]; rfl)⟩ : _ ∧ k_ ≠ go38))) (fun _ hk => hk.2) ((Value.slice Az122 t121.length cz122))) (fun _ hk => ⟨hk.1.1, ⟨hk.1.2.1, ⟨hk.1.2.2.1, hk.1.2.2.2⟩⟩⟩))⟩
     have n5_ : Aside0 (Kd.V (Kd.int .i64) 3 (w45.setCell ⟨go38, ((ji34) : Int).toNat, none⟩ ((Value.slice Az122 t121.length cz122))) w.heap.size (fun k_ => (P1_ k_ ∨ w.heap.size ≤ k_) ∧ some k_ ≠ (.slice (some ⟨go38, 0, none⟩) x11_2.length co44 : Value).ownBlock ∧ some k_ ≠ (.slice (some ad119) x8_1.length co28 : Value).ownBlock ∧ k_ ≠ gb101 ∧ k_ ≠ gb106) (.slice A119_0 (rd_L1 x8_1 x44_2).length c119_0) (rd_L1 x8_1 x44_2)) := ⟨zV (Kd.V_mono (Kd.V_far (p := ⟨go38, ((ji34) : Int).toNat, none⟩) (Kd.V_mono HL119_0.out (fun k_ hk => (⟨hk, fun e_ => hk.1.2.1 (by rw [e_]; rfl)⟩ : _ ∧ k_ ≠ go38))) (fun _ hk => hk.2) ((Value.slice Az122 t121.length cz122))) (fun _ hk => ⟨hk.1.1.1, ⟨hk.1.1.2.1, ⟨hk.1.2, ⟨hk.1.1.2.2.1, hk.1.1.2.2.2⟩⟩⟩⟩))⟩
     have n6_ : Aside0 (Kd.V (Kd.int .i64) 3 (w45.setCell ⟨go38, ((ji34) : Int).toNat, none⟩ ((Value.slice Az122 t121.length cz122))) w.heap.size (fun k_ => (P1_ k_ ∨ w.heap.size ≤ k_) ∧ some k_ ≠ (.slice (some ⟨go38, 0, none⟩) x11_2.length co44 : Value).ownBlock ∧ some k_ ≠ (.slice (some ad119) x8_1.length co28 : Value).ownBlock ∧ k_ ≠ gb101 ∧ k_ ≠ gb106) (.slice A120_0 (rd_L1 x11_2 (ji34)).length c120_0) (rd_L1 x11_2 (ji34))) := ⟨zV (Kd.V_mono (Kd.V_far (p := ⟨go38, ((ji34) : Int).toNat, none⟩) (Kd.V_mono HL120_0.out (fun k_ hk => (⟨hk, fun e_ => hk.2 (by rw [e_]; rfl)⟩ : _ ∧ k_ ≠ go38))) (fun _ hk => hk.2) ((Value.slice Az122 t121.length cz122))) (fun _ hk => ⟨hk.1.1.1, ⟨hk.1.2, ⟨hk.1.1.2.1, ⟨hk.1.1.2.2.1, hk.1.1.2.2.2⟩⟩⟩⟩))⟩
     have n7_ : Aside0 (Kd.V (Kd.int .i64) 3 (w45.setCell ⟨go38, ((ji34) : Int).toNat, none⟩ ((Value.slice Az122 t121.length cz122))) w.heap.size (fun k_ => (P1_ k_ ∨ w.heap.size ≤ k_) ∧ some k_ ≠ (.slice (some ⟨go38, 0, none⟩) x11_2.length co44 : Value).ownBlock ∧ some k_ ≠ (.slice (some ad119) x8_1.length co28 : Value).ownBlock ∧ k_ ≠ gb101 ∧ k_ ≠ gb106) (Value.slice Az122 t121.length cz122) t121) := ⟨zV (Kd.V_mono (Kd.V_far (p := ⟨go38, ((ji34) : Int).toNat, none⟩) (Kd.V_mono HO123.out (fun k_ hk => (⟨hk, fun e_ => hk.2.1 (by rw [e_]; rfl)⟩ : _ ∧ k_ ≠ go38))) (fun _ hk => hk.2) ((Value.slice Az122 t121.length cz122))) (fun _ hk => ⟨hk.1.1, ⟨hk.1.2.1, ⟨hk.1.2.2.1, ⟨hk.1.2.2.2.1, hk.1.2.2.2.2⟩⟩⟩⟩))⟩
     have n8_ : Aside0 ((w45.setCell ⟨go38, ((ji34) : Int).toNat, none⟩ ((Value.slice Az122 t121.length cz122))).heap[gb101]? = some (.cells #[.int .i64 a0_0, .slice A0_1 l0_1.length c0_1] 33 (0, 0))) := ⟨by (with_reducible repeat (first | refine blk_drewN ?_ _ | refine blk_drew ?_ | refine blk_alloc ?_ _)); refine blk_far ?_ (by have h_ := Kd.N_away HO_11.out (fun _ hk => hk.2.2.1); intro e_; exact h_ (by rw [e_]; rfl)) _; (with_reducible repeat (first | refine blk_drewN ?_ _ | refine blk_drew ?_ | refine blk_alloc ?_ _)); exact BK101.out⟩
     have n9_ : Aside0 ((w45.setCell ⟨go38, ((ji34) : Int).toNat, none⟩ ((Value.slice Az122 t121.length cz122))).heap[gb106]? = some (.cells #[.int .i64 a0_0, .slice A0_1 l0_1.length c0_1] 68 (0, 0))) := ⟨by (with_reducible repeat (first | refine blk_drewN ?_ _ | refine blk_drew ?_ | refine blk_alloc ?_ _)); refine blk_far ?_ (by have h_ := Kd.N_away HO_11.out (fun _ hk => hk.2.2.2); intro e_; exact h_ (by rw [e_]; rfl)) _; (with_reducible repeat (first | refine blk_drewN ?_ _ | refine blk_drew ?_ | refine blk_alloc ?_ _)); exact BK106.out⟩
     have n10_ : Aside0 (Below w.heap.size w (w45.setCell ⟨go38, ((ji34) : Int).toNat, none⟩ ((Value.slice Az122 t121.length cz122)))) := ⟨by repeat (first | (with_reducible first | exact HB.out | apply below_alloc | apply pw_below_drewN | apply below_drew1 | refine below_set ?_ GB38.out | refine below_set ?_ GE101.out | refine below_set ?_ GE106.out) | exact HB.out)⟩
     (try clear HO_1)
     (try clear HO_9)
     (try clear HO_10)
     (try clear HO_11)
     (try clear HO_42)
     (try clear HL119_0)
     (try clear HL120_0)
     (try clear HO123)
     (try clear BK101)
     (try clear BK106)
     (try clear HB)
     generalize (w45.setCell ⟨go38, ((ji34) : Int).toNat, none⟩ ((Value.slice Az122 t121.length cz122))) = w47 at n0_ n1_ n2_ n3_ n4_ n5_ n6_ n7_ n8_ n9_ n10_ ⊢
     have HO_1 := n0_
     have HO_9 := n1_
     have HO_10 := n2_
     have HO_11 := n3_
     have HO_42 := n4_
     have HL119_0 := n5_
     have HL120_0 := n6_
     have HO123 := n7_
     have BK101 := n8_
     have BK106 := n9_
     have HB := n10_
     clear n0_ n1_ n2_ n3_ n4_ n5_ n6_ n7_ n8_ n9_ n10_
     replace HO_1 := zm (Kd.V_drew HO_1.out)
     replace HO_9 := zm (Kd.V_drew HO_9.out)
     replace HO_10 := zm (Kd.V_drew HO_10.out)
     replace HO_11 := zm (Kd.N_drew HO_11.out)
     replace HO_42 := zm (Kd.N_drew HO_42.out)
     replace HL119_0 := zm (Kd.V_drew HL119_0.out)
     replace HL120_0 := zm (Kd.V_drew HL120_0.out)
     replace HO123 := zm (Kd.V_drew HO123.out)
     replace BK101 := zm (blk_drew BK101.out)
     replace BK106 := zm (blk_drew BK106.out)
     replace HB := zm (below_drew1 HB.out)
     have p125 : 0 ≤ (x44_2 : Int) := zD
     have q125 : x44_2 < (y124.length : Int) := (by have h_ : (x44_2 : Int) < ((x11_2.length : Int) : Int) := zD; first | (have e_ := (Kd.N_reads' HO_11.out).1; omega) | simpa only [Ny124.out, List.length_set] using h_)
     have ql125 : ((x44_2 : Int) < ((x11_2.length : Int) : Int)) = True := eq_true zD
     obtain ⟨ad125, A125_0, c125_0, e125, hx125_0, hl125_0, hi125_0⟩ := at_L1 (Kd.N_reads' HO_11.out).2.2 x44_2 p125 q125
     obtain rfl : (⟨go38, 0, none⟩ : Addr) = ad125 := (by injection e125)
     obtain ⟨ce125, hce125, hMe125, hcc125⟩ := Kd.N_get HO_11.out [] x44_2 p125 (by first | exact q125 | exact zD | (have e_ := (Kd.N_reads' HO_11.out).1; omega))
     obtain ⟨ua125_0, uc125_0, rfl, ul125_0, ge125_0⟩ := Kd.FK_slice_open hMe125
     have hv125_0 := hcc125 0 _ rfl
     rw [Nat.add_zero, show ((Kd.slice 3 (Kd.int .i64))).sz = 1 from rfl, Nat.mul_one] at hv125_0
     replace hv125_0 := Option.some.inj (hv125_0.symm.trans hx125_0)
     injection hv125_0 with hva_ hvn_ hvc_
     rw [hva_] at ge125_0
     rw [hvc_] at ul125_0
     have HL125_0 := zm (show Kd.V (Kd.int .i64) 3 _ w.heap.size _ _ (rd_L1 y124 x44_2) from Kd.V_mk ul125_0 ge125_0)
     clear hva_ hvn_ hvc_ ge125_0 ul125_0
     clear hcc125 hce125
     (first | simp only [add_plain] at hx125_0 | simp only [add_at] at hx125_0 | simp only [Addr.add, Nat.zero_add] at hx125_0 | skip)
     have HR125_0 := zm hi125_0
     have HC125_0 := zm hl125_0
     clear hi125_0 hl125_0
     replace p125 := eq_true p125
     replace q125 := eq_true q125
     obtain ⟨Ao49, co49, eo49⟩ := Kd.V_slice HO_10.out
     (first | subst eo49 | (injection eo49 with f1_ f2_ f3_; have f4_ := f1_.symm; have f5_ := f3_.symm; clear f1_ f2_ f3_; subst f4_; subst f5_))
     refine start_ (n := 14) (S := fun w' => w'.cell? ⟨gb106, 0, none⟩ = some (.int .i64 a0_0) ∧ w'.cell? ⟨gb106, 1, none⟩ = some (.slice A0_1 l0_1.length c0_1) ∧ w'.cell? ⟨go38, (x44_2).toNat, none⟩ = some (.slice A125_0 (rd_L1 y124 x44_2).length c125_0)) (ds := [13]) #[false, false, false, false, false, false, false, false, false, false, false, false, false, false] (by kernel_rfl) rfl rfl ⟨(blk_cell BK106.out 0).trans rfl, (blk_cell BK106.out 1).trans rfl, hx125_0⟩ (fun hHeld => ?_); refine with_tabW fi_MinPoly.tab13 fi_MinPoly.bits13 (fun HT_ HW_ => ?_)
     generalize w47.drew = w48 at HO_1 HO_9 HO_10 HO_11 HO_42 HL119_0 HL120_0 HO123 BK101 BK106 HB HL125_0 HQ46 HR125_0 hx125_0 hHeld ⊢
     refine zP 0 61 ?_; refine zP 1 62 ?_; refine zP 3 64 ?_; refine zP 4 65 ?_; refine zP 5 66 ?_; refine zP 8 69 ?_; refine zP 9 70 ?_
     refine take_ (i := 2) (N := some 63) (v := ?_) (a' := ?_) #[true, true, true, true, true, true, false, false, true, true, false, false, false, false] rfl rfl (take_ofW HT_.out HW_.out (by kernel_rfl)) (fun _ _ _ h => h) (Or.inl ⟨by rfl, ?_⟩) hHeld ?_ ?_
     rotate_left
     ·rintro w' ⟨s0, s1, s2⟩
      go_simp
      with_reducible rfl
     rotate_left
     ·simp only [Act.put, List.setIfInBounds_toArray, List.set_cons_zero, List.set_cons_succ, i64_w, i32_w]
      rfl
     refine take_ (i := 6) (N := some 67) (v := ?_) (a' := ?_) #[true, true, true, true, true, true, true, false, true, true, false, false, false, false] rfl rfl (take_ofW HT_.out HW_.out (by kernel_rfl)) (fun _ _ _ h => h) (Or.inl ⟨by rfl, ?_⟩) hHeld ?_ ?_
     rotate_left
     ·rintro w' ⟨s0, s1, s2⟩
      go_simp
      with_reducible rfl
     rotate_left
     ·simp only [Act.put, List.setIfInBounds_toArray, List.set_cons_zero, List.set_cons_succ, i64_w, i32_w]
      rfl
     refine take_ (i := 7) (N := some 68) (v := ?_) (a' := ?_) #[true, true, true, true, true, true, true, true, true, true, false, false, false, false] rfl rfl (take_ofW HT_.out HW_.out (by kernel_rfl)) (fun _ _ _ h => h) (Or.inl ⟨by rfl, ?_⟩) hHeld ?_ ?_
     rotate_left
     ·rintro w' ⟨s0, s1, s2⟩
      go_simp
      with_reducible rfl
     rotate_left
     ·simp only [Act.put, List.setIfInBounds_toArray, List.set_cons_zero, List.set_cons_succ, i64_w, i32_w]
      rfl
     refine one_ (i := 10) (N := some 71) #[true, true, true, true, true, true, true, true, true, true, true, false, false, false] rfl rfl (one_of HT_.out (by kernel_rfl)) (by decide) (fun K hK => ?_)
     refine goes_ Try.func59 (by kernel_rfl) rfl #[.agg #[.int .i64 a0_0, .slice A0_1 l0_1.length c0_1], .slice A119_0 (rd_L1 x8_1 x44_2).length c119_0, .slice Ao49 t113.length co49] (by rfl) rfl rfl (by (try simp only [List.map_toArray, List.map_cons, List.map_nil]); first | done | rfl | (simp only [List.length_drop, List.length_take]; rfl)) ?_
     with_reducible refine (gFMul.calls k2 a0_0 _ _ l0_1 _ _ (rd_L1 x8_1 x44_2) _ _ t113 t126 _ ?side1 ?side2 ?side3 ?side4 ?side5 ?side6 A40.out).mono ?_
     (case side1 => exact zC (Kd.C_below HR0_1.out HB.out))
     (case side2 => exact HC0_1.out)
     (case side3 => exact zC ((Kd.V_reads' HL119_0.out).2.2))
     (case side4 => exact HC119_0.out)
     (case side5 => exact zC ((Kd.V_reads' HO_10.out).2.2))
     (case side6 => exact (Kd.V_reads' HO_10.out).2.1)
     rintro e w50 ⟨v127, rfl, ho0, hb⟩
     have HS2_ := (hb.cell (World.block_lt_of_cell? _ _ (hHeld.2.2))).trans (hHeld.2.2)
     refine ⟨_, rfl, ?_⟩
     replace HO_1 := zVb HO_1 hb
     replace HO_9 := zVb HO_9 hb
     replace HO_10 := zVb HO_10 hb
     replace HL119_0 := zVb HL119_0 hb
     replace HL120_0 := zVb HL120_0 hb
     replace HO123 := zVb HO123 hb
     replace HL125_0 := zVb HL125_0 hb
     have HO128 := zm (Kd.V_lower (Kd.V_mono (ok' := fun k_ => (P1_ k_ ∨ w.heap.size ≤ k_) ∧ some k_ ≠ (.slice (some ⟨go38, 0, none⟩) x11_2.length co44 : Value).ownBlock ∧ some k_ ≠ (.slice (some ad119) x8_1.length co28 : Value).ownBlock ∧ k_ ≠ gb101 ∧ k_ ≠ gb106) ho0 (fun k_ hk_ => ⟨(.inr (Nat.le_trans (below_size (by repeat (first | (with_reducible first | exact HB.out | apply below_alloc | apply pw_below_drewN | apply below_drew1 | refine below_set ?_ GE101.out | refine below_set ?_ GE106.out) | exact HB.out))) hk_)), (Kd.fresh' (Kd.N_lt (zN HO_11.out)) k_ hk_), (Kd.fresh' (Kd.N_lt (zN HO_42.out)) k_ hk_), (Kd.freshB (zK BK101.out) k_ hk_), (Kd.freshB (zK BK106.out) k_ hk_)⟩)) (below_size (by repeat (first | (with_reducible first | exact HB.out | apply below_alloc | apply pw_below_drewN | apply below_drew1 | refine below_set ?_ GE101.out | refine below_set ?_ GE106.out) | exact HB.out))))
     replace HO_11 := zNb HO_11 hb
     replace HO_42 := zNb HO_42 hb
     replace BK101 := zKb BK101 hb
     replace BK106 := zKb BK106 hb
     replace HR125_0 := zm (Kd.C_below (by repeat (first | (with_reducible exact HR125_0.out) | (with_reducible refine Kd.C_alloc ?_ _) | (with_reducible refine Kd.C_drewN ?_ _) | (with_reducible refine Kd.C_drew ?_) | exact HR125_0.out)) hb)
     replace HB := zm (below_step (by repeat (first | (with_reducible first | exact HB.out | apply below_alloc | apply pw_below_drewN | apply below_drew1 | refine below_set ?_ GE101.out | refine below_set ?_ GE106.out) | exact HB.out)) hb)
     (try clear hb)
     (try clear hb2)
     (try clear hk)
     (try clear hi)
     (try clear ho0)
     obtain ⟨Ao51, co51, eo51⟩ := Kd.V_slice HO128.out
     (first | subst eo51 | (injection eo51 with f1_ f2_ f3_; have f4_ := f1_.symm; have f5_ := f3_.symm; clear f1_ f2_ f3_; subst f4_; subst f5_))
     refine hK.out _ _ ⟨(blk_cell BK106.out 0).trans rfl, (blk_cell BK106.out 1).trans rfl, HS2_⟩ (fun hHeld => ?_)
     clear hK K
     refine norm_ (a' := ?_) ?_ ?_
     rotate_left
     ·show Act.put _ (some 71) _ = _
      simp only [Act.put, List.setIfInBounds_toArray, List.set_cons_zero, List.set_cons_succ, i64_w, i32_w]
      rfl
     refine one_ (i := 11) (N := some 72) #[true, true, true, true, true, true, true, true, true, true, true, true, false, false] rfl rfl (one_of HT_.out (by kernel_rfl)) (by decide) (fun K hK => ?_)
     refine goes_ Try.func76 (by kernel_rfl) rfl #[.agg #[.int .i64 a0_0, .slice A0_1 l0_1.length c0_1], .slice A125_0 (rd_L1 y124 x44_2).length c125_0, .slice Ao51 t126.length co51] (by rfl) rfl rfl (by (try simp only [List.map_toArray, List.map_cons, List.map_nil]); first | done | rfl | (simp only [List.length_drop, List.length_take]; rfl)) ?_
     with_reducible refine (gFAdd.calls k2 a0_0 _ _ l0_1 _ _ (rd_L1 y124 x44_2) _ _ t126 t129 _ ?side1 ?side2 ?side3 ?side4 ?side5 ?side6 A41.out).mono ?_
     (case side1 => exact zC (Kd.C_below HR0_1.out HB.out))
     (case side2 => exact HC0_1.out)
     (case side3 => repeat (first | exact (by repeat (first | (with_reducible exact HR125_0.out) | (with_reducible refine Kd.C_alloc ?_ _) | (with_reducible refine Kd.C_drewN ?_ _) | (with_reducible refine Kd.C_drew ?_) | exact HR125_0.out)) | (with_reducible refine Kd.C_alloc ?_ _) | (with_reducible refine Kd.C_drewN ?_ _) | (with_reducible refine Kd.C_drew ?_)))
     (case side4 => exact HC125_0.out)
     (case side5 => exact zC ((Kd.V_reads' HO128.out).2.2))
     (case side6 => exact (Kd.V_reads' HO128.out).2.1)
     rintro e w52 ⟨v130, rfl, ho0, hb⟩
     have HS2_ := (hb.cell (World.block_lt_of_cell? _ _ (hHeld.2.2))).trans (hHeld.2.2)
     refine ⟨_, rfl, ?_⟩
     replace HO_1 := zVb HO_1 hb
     replace HO_9 := zVb HO_9 hb
     replace HO_10 := zVb HO_10 hb
     replace HL119_0 := zVb HL119_0 hb
     replace HL120_0 := zVb HL120_0 hb
     replace HO123 := zVb HO123 hb
     replace HL125_0 := zVb HL125_0 hb
     replace HO128 := zVb HO128 hb
     have HO131 := zm (Kd.V_lower (Kd.V_mono (ok' := fun k_ => (P1_ k_ ∨ w.heap.size ≤ k_) ∧ some k_ ≠ (.slice (some ⟨go38, 0, none⟩) x11_2.length co44 : Value).ownBlock ∧ some k_ ≠ (.slice (some ad119) x8_1.length co28 : Value).ownBlock ∧ k_ ≠ gb101 ∧ k_ ≠ gb106) ho0 (fun k_ hk_ => ⟨(.inr (Nat.le_trans (below_size (by repeat (first | (with_reducible first | exact HB.out | apply below_alloc | apply pw_below_drewN | apply below_drew1 | refine below_set ?_ GE101.out | refine below_set ?_ GE106.out) | exact HB.out))) hk_)), (Kd.fresh' (Kd.N_lt (zN HO_11.out)) k_ hk_), (Kd.fresh' (Kd.N_lt (zN HO_42.out)) k_ hk_), (Kd.freshB (zK BK101.out) k_ hk_), (Kd.freshB (zK BK106.out) k_ hk_)⟩)) (below_size (by repeat (first | (with_reducible first | exact HB.out | apply below_alloc | apply pw_below_drewN | apply below_drew1 | refine below_set ?_ GE101.out | refine below_set ?_ GE106.out) | exact HB.out))))
     replace HO_11 := zNb HO_11 hb
     replace HO_42 := zNb HO_42 hb
     replace BK101 := zKb BK101 hb
     replace BK106 := zKb BK106 hb
     replace HR125_0 := zm (Kd.C_below (by repeat (first | (with_reducible exact HR125_0.out) | (with_reducible refine Kd.C_alloc ?_ _) | (with_reducible refine Kd.C_drewN ?_ _) | (with_reducible refine Kd.C_drew ?_) | exact HR125_0.out)) hb)
     replace HB := zm (below_step (by repeat (first | (with_reducible first | exact HB.out | apply below_alloc | apply pw_below_drewN | apply below_drew1 | refine below_set ?_ GE101.out | refine below_set ?_ GE106.out) | exact HB.out)) hb)
     (try clear hb)
     (try clear hb2)
     (try clear hk)
     (try clear hi)
     (try clear ho0)
     have p42 : 0 ≤ (x44_2 : Int) := zD
     have q42 : (x44_2 : Int) < ((x11_2.length : Int) : Int) := zD
     obtain ⟨ce42, hcl42, hM42, hcc42, hfr42⟩ := Kd.N_elem HO_11.out [] (x44_2 : Int) p42 q42
     obtain ⟨ua42_0, uc42_0, rfl, ul42_0, ge42_0⟩ := Kd.FK_slice_open hM42
     have hx42_0 := hcc42 0 _ rfl
     have hf42_0 := hfr42 0
     (try simp only [show ((Kd.slice 3 (Kd.int .i64))).sz = 1 from rfl, Nat.mul_one, Nat.add_zero] at hx42_0)
     (try simp only [show ((Kd.slice 3 (Kd.int .i64))).sz = 1 from rfl, Nat.mul_one, Nat.add_zero] at hf42_0)
     clear hcl42 hcc42 hfr42 hM42
     replace p42 := eq_true p42
     replace q42 := eq_true q42
     have HX53 := zm (show Kd.N (Kd.slice 3 (Kd.int .i64)) 25 _ w.heap.size (fun k_ => (P1_ k_ ∨ w.heap.size ≤ k_) ∧ some k_ ≠ (.slice (some ad119) x8_1.length co28 : Value).ownBlock ∧ k_ ≠ gb101 ∧ k_ ≠ gb106) (.slice (some ⟨go38, 0, none⟩) x11_2.length co44) y124 from (Kd.N_mono (HO_11.out) (fun k_ hk => ⟨hk.1, ⟨hk.2.1, ⟨hk.2.2.1, hk.2.2.2⟩⟩⟩)))
     obtain ⟨ce53, hcl53, hM53, hcc53, hfr53⟩ := Kd.N_elem HX53.out [] (x44_2 : Int) zD (by have h_ : (x44_2 : Int) < ((x11_2.length : Int) : Int) := zD; first | exact h_ | (have e_ := (Kd.N_reads' HO_11.out).1; omega) | simpa using h_)
     obtain ⟨ua53_0, uc53_0, rfl, ul53_0, ge53_0⟩ := Kd.FK_slice_open hM53
     obtain ⟨Az130, cz130, ez_, _⟩ := HO131.out
     subst ez_
     have z0_ := HO131.out
     have z_ := Kd.V_mono (ok' := (fun k_ => ((fun k_ => (P1_ k_ ∨ w.heap.size ≤ k_) ∧ some k_ ≠ (.slice (some ad119) x8_1.length co28 : Value).ownBlock ∧ k_ ≠ gb101 ∧ k_ ≠ gb106)) k_ ∧ k_ ≠ go38)) z0_ (fun k_ hk => ⟨⟨hk.1, ⟨hk.2.2.1, ⟨hk.2.2.2.1, hk.2.2.2.2⟩⟩⟩, fun e_ => (hk.2.1) (by rw [e_]; rfl)⟩)
     have HP53 := (Kd.N_seg HX53.out (x44_2 : Int) zD (by have h_ : (x44_2 : Int) < ((x11_2.length : Int) : Int) := zD; first | exact h_ | (have e_ := (Kd.N_reads' HO_11.out).1; omega) | simpa using h_) (seg := [(Value.slice Az130 t129.length cz130)]) (j := 0) hcl53 hcc53 (show 1 ≤ 1 from by decide) (x' := t129) (Kd.FK_slice_mk (Kd.V_reads' z_).2.1 (Kd.V_F z_)) (fun _ hk => hk)).1
     clear z_ z0_
     (try simp only [show ((Kd.slice 3 (Kd.int .i64))).sz = 1 from rfl, Nat.mul_one, Nat.add_zero] at HP53)
     rw [← Ny132.out] at HP53
     have HQ53 := zm HP53
     clear hcl53 hcc53 hfr53 hM53 HP53
     refine hK.out _ _ ⟨(blk_cell BK106.out 0).trans rfl, (blk_cell BK106.out 1).trans rfl, HS2_⟩ (fun hHeld => ?_)
     clear hK K
     refine norm_ (a' := ?_) ?_ ?_
     rotate_left
     ·show Act.put _ (some 72) _ = _
      simp only [Act.put, List.setIfInBounds_toArray, List.set_cons_zero, List.set_cons_succ, i64_w, i32_w]
      rfl
     refine zP 12 73 ?_
     refine last_ (i := 13) (N := none) #[true, true, true, true, true, true, true, true, true, true, true, true, true, true] rfl rfl (one_of HT_.out (by kernel_rfl)) (by decide) (fun K hK => ?_)
     refine skip_ (w1 := ?_) (by rfl) rfl ?_ ?_
     rotate_left
     ·go_simp
      rfl
     refine hK.out _ _ ?_
     clear hK K
     refine done_ (done_of HT_.out (by kernel_rfl)) ?_
     try go_wp2
     (first | go_roundg k2 | (simp only [show ∀ g_ : Nat, ({ block := g_, off := (ji21).toNat } : Addr) = ({ block := g_, off := 0 } : Addr).add (ji21).toNat from fun g_ => by simp [Addr.add]]; go_roundg k2))
     case measure => have := HK1.out; have := HK2.out; omega
     case rel => exact ⟨(y132), (ji34), (by first | rfl | (simp; done) | (simp only [← hji34] <;> (first | rfl | simp)) | (simp [*]; done)), H', ⟨by have := HK1.out; have := HK2.out; omega⟩, ⟨zV (Kd.V_mono (Kd.V_far (p := ⟨go38, (x44_2 : Int).toNat, none⟩) (Kd.V_mono HO_1.out (fun k_ hk => (⟨hk, fun e_ => hk.2.1 (by rw [e_]; rfl)⟩ : _ ∧ k_ ≠ go38))) (fun _ hk => hk.2) ((Value.slice Az130 t129.length cz130))) (fun _ hk => ⟨hk.1.1, ⟨hk.1.2.1, ⟨hk.1.2.2.1, ⟨hk.1.2.2.2.1, hk.1.2.2.2.2⟩⟩⟩⟩))⟩, ⟨zV (Kd.V_mono (Kd.V_far (p := ⟨go38, (x44_2 : Int).toNat, none⟩) (Kd.V_mono HO_9.out (fun k_ hk => (⟨hk, fun e_ => hk.2.1 (by rw [e_]; rfl)⟩ : _ ∧ k_ ≠ go38))) (fun _ hk => hk.2) ((Value.slice Az130 t129.length cz130))) (fun _ hk => ⟨hk.1.1, ⟨hk.1.2.1, ⟨hk.1.2.2.1, ⟨hk.1.2.2.2.1, hk.1.2.2.2.2⟩⟩⟩⟩))⟩, ⟨zV (Kd.V_mono (Kd.V_far (p := ⟨go38, (x44_2 : Int).toNat, none⟩) (Kd.V_mono HO_10.out (fun k_ hk => (⟨hk, fun e_ => hk.2.1 (by rw [e_]; rfl)⟩ : _ ∧ k_ ≠ go38))) (fun _ hk => hk.2) ((Value.slice Az130 t129.length cz130))) (fun _ hk => ⟨hk.1.1, ⟨hk.1.2.1, ⟨hk.1.2.2.1, ⟨hk.1.2.2.2.1, hk.1.2.2.2.2⟩⟩⟩⟩))⟩, ⟨by exact HQ53.out⟩, ⟨zN (Kd.N_mono (Kd.N_far (p := ⟨go38, (x44_2 : Int).toNat, none⟩) (Kd.N_mono HO_42.out (fun k_ hk => (⟨hk, fun e_ => hk.2.1 (by rw [e_]; rfl)⟩ : _ ∧ k_ ≠ go38))) (fun _ hk => hk.2) ((Value.slice Az130 t129.length cz130))) (fun _ hk => ⟨hk.1.1, ⟨hk.1.2.1, ⟨hk.1.2.2.1, hk.1.2.2.2⟩⟩⟩))⟩, ⟨by (with_reducible repeat (first | refine blk_drewN ?_ _ | refine blk_drew ?_ | refine blk_alloc ?_ _)); refine blk_far ?_ (by have h_ := Kd.N_away HO_11.out (fun _ hk => hk.2.2.1); intro e_; exact h_ (by rw [e_]; rfl)) _; (with_reducible repeat (first | refine blk_drewN ?_ _ | refine blk_drew ?_ | refine blk_alloc ?_ _)); exact BK101.out⟩, ⟨by (with_reducible repeat (first | refine blk_drewN ?_ _ | refine blk_drew ?_ | refine blk_alloc ?_ _)); refine blk_far ?_ (by have h_ := Kd.N_away HO_11.out (fun _ hk => hk.2.2.2); intro e_; exact h_ (by rw [e_]; rfl)) _; (with_reducible repeat (first | refine blk_drewN ?_ _ | refine blk_drew ?_ | refine blk_alloc ?_ _)); exact BK106.out⟩, ⟨by repeat (first | (with_reducible first | exact HB.out | apply below_alloc | apply pw_below_drewN | apply below_drew1 | refine below_set ?_ GB38.out | refine below_set ?_ GE101.out | refine below_set ?_ GE106.out) | exact HB.out)⟩⟩
def pm_first.l0 : Nat → Int → List (List Int) → Int → Int → Option (Int)
 | 0, _, _, _, _ => none
 | k + 1, x0, x8, x9, x10 => if x10 < x9 then (if 0 ≤ x10 then (if x10 < (x8.length : Int) then ((pm_Check.f k x0 (rd_L1 x8 x10)).bind fun t102 => (if t102 = 0 then (pm_first.l0 k x0 x8 x9 (wrap64 (x10 + 1))) else (some t102))) else (none)) else (none)) else (some 0)
def pm_first.f (k : Nat) (a0 : Int) (l1 : List (List Int)) : Option (Int) := pm_first.l0 k a0 l1 (l1.length : Int) 0
theorem pm_first.mono_l : ∀ k, (∀ y0 y1 y2 y3, LeO (pm_first.l0 k y0 y1 y2 y3) (pm_first.l0 (k + 1) y0 y1 y2 y3))
 | 0 => fun _ _ _ _ r h => by simp [pm_first.l0] at h
 | k + 1 => by
  have ih0 := pm_first.mono_l k
  intro y0 y1 y2 y3
  unfold pm_first.l0
  with_reducible repeat' first | exact ih0 _ _ _ _ | exact pm_Check.mono _ _ _ | exact LeO.refl _ | exact LeO.none _ | refine LeO.ite ?_ ?_ | refine LeO.bind ?_ (fun _ => ?_)
theorem pm_first.mono : ∀ a0 a1 k, LeO (pm_first.f k a0 a1) (pm_first.f (k + 1) a0 a1) := by
 intro a0 a1 k
 have ih0 := pm_first.mono_l k
 unfold pm_first.f
 with_reducible repeat' first | exact ih0 _ _ _ _ | exact pm_Check.mono _ _ _ | exact LeO.refl _ | exact LeO.none _ | refine LeO.ite ?_ ?_ | refine LeO.bind ?_ (fun _ => ?_)
theorem pm_first.calls (k : Nat) (a0 : Int) (A1 : Option Addr) (c1 : Nat) (l1 : List (List Int)) (r : Int) (w : World) (hr1 : Kd.C (Kd.slice 3 (Kd.int .i64)) w A1 l1.length l1) (hc1 : l1.length ≤ c1) (h : pm_first.f k a0 l1 = some r) :
  Calls Try.prog 79 #[.int .i64 a0, .slice A1 l1.length c1] w fun e w' => e = .returned (.int .i64 r) ∧ Below w.heap.size w w' := by
 have HR1 := zm hr1
 have HC1 := zm hc1
 clear hr1 hc1
 have HB := zm (Below.refl w.heap.size w)
 have H := h; clear h; unfold pm_first.f at H
 have H' := zm H
 clear H
 go_enter Try.func79, Try.ntmps79
 go_wp2
 go_loopg [10] k (fun kq v10 w' => ∃ (x10_1 : Int), v10 = .int .i64 x10_1 ∧ Aside0 (pm_first.l0 kq a0 l1 (l1.length : Int) x10_1 = some r) ∧ Aside0 (kq ≤ k) ∧ Aside0 (Below w.heap.size w w'))
 case atStart => exact ⟨(0), zX, H', ⟨Nat.le_refl _⟩, ⟨zT⟩⟩
 case round =>
  clear H'
  obtain ⟨x10_1, rfl, HA, HK1, HB⟩ := hrel
  cases gk with
  | zero => exact absurd HA.out (by simp [pm_first.l0])
  | succ k1 =>
   have H := HA.out
   clear HA
   simp only [pm_first.l0] at H
   by_cases c3 : x10_1 < (l1.length : Int)
   rotate_left
   ·rw [if_neg c3] at H
    have c3b0 := decide_eq_false c3; clear c3
    obtain rfl := Option.some.inj H
    go_wp2
    go_ret
    exact ⟨zQ, zT⟩
   rw [if_pos c3] at H
   have c3b0 := decide_eq_true c3; clear c3
   by_cases c4 : 0 ≤ x10_1
   rotate_left
   ·rw [if_neg c4] at H
    exact absurd H (by simp)
   rw [if_pos c4] at H
   have c4b0 := decide_eq_true c4; clear c4
   by_cases c5 : x10_1 < (l1.length : Int)
   rotate_left
   ·rw [if_neg c5] at H
    exact absurd H (by simp)
   rw [if_pos c5] at H
   have c5b0 := decide_eq_true c5; clear c5
   obtain ⟨t102, A6, H⟩ := zO H
   by_cases c7 : t102 = 0
   rotate_left
   ·rw [if_neg c7] at H
    obtain ⟨c7b0, c7b1⟩ := zU c7
    obtain rfl := Option.some.inj H
    have p101 : 0 ≤ (x10_1 : Int) := zD
    have q101 : x10_1 < (l1.length : Int) := zD
    obtain ⟨ad101, A101_0, c101_0, e101, hx101_0, hl101_0, hi101_0⟩ := at_L1 HR1.out x10_1 p101 q101
    cases e101
    replace hx101_0 := (HB.out.cell (World.block_lt_of_cell? w _ hx101_0)).trans hx101_0
    have HR101_0 := zm hi101_0
    have HC101_0 := zm hl101_0
    clear hi101_0 hl101_0
    replace p101 := eq_true p101
    replace q101 := eq_true q101
    go_wp2_with (first | ((with_reducible refine gate_callee (f := 45) rfl ?_); refine zG (some 16) Try.func45 #[.int .i64 a0, .slice A101_0 (rd_L1 l1 x10_1).length c101_0] ?_; (with_reducible refine (pm_Check.calls k1 a0 _ _ (rd_L1 l1 x10_1) t102 _ (zC (Kd.C_below HR101_0.out HB.out)) HC101_0.out A6.out).mono ?_); rintro e w9 ⟨rfl, hb⟩; refine ⟨_, rfl, ?_⟩; replace HB := zBb HB hb))
    go_ret
    exact ⟨zQ, zT⟩
   rw [if_pos c7] at H
   obtain ⟨c7b0, c7b1⟩ := zE c7; clear c7
   have H' := zm H
   clear H
   have p101 : 0 ≤ (x10_1 : Int) := zD
   have q101 : x10_1 < (l1.length : Int) := zD
   obtain ⟨ad101, A101_0, c101_0, e101, hx101_0, hl101_0, hi101_0⟩ := at_L1 HR1.out x10_1 p101 q101
   cases e101
   replace hx101_0 := (HB.out.cell (World.block_lt_of_cell? w _ hx101_0)).trans hx101_0
   have HR101_0 := zm hi101_0
   have HC101_0 := zm hl101_0
   clear hi101_0 hl101_0
   replace p101 := eq_true p101
   replace q101 := eq_true q101
   go_wp2_with (first | ((with_reducible refine gate_callee (f := 45) rfl ?_); refine zG (some 16) Try.func45 #[.int .i64 a0, .slice A101_0 (rd_L1 l1 x10_1).length c101_0] ?_; (with_reducible refine (pm_Check.calls k1 a0 _ _ (rd_L1 l1 x10_1) t102 _ (zC (Kd.C_below HR101_0.out HB.out)) HC101_0.out A6.out).mono ?_); rintro e w8 ⟨rfl, hb⟩; refine ⟨_, rfl, ?_⟩; replace HB := zBb HB hb))
   go_roundg k1
   case measure => have := HK1.out; omega
   case rel => exact ⟨(wrap64 (x10_1 + 1)), zX, H', ⟨by have := HK1.out; omega⟩, ⟨zT⟩⟩
def pm_IsIrreducible.f (k : Nat) (a0 : Int) (l1 : List Int) : Option (Bool × Int) := (pm_first.f k a0 (([l1] : List (List Int)))).bind fun t104 => (if t104 = 0 then ((fp_Irreducible.f k a0 l1).bind fun t105 => (some (t105, 0))) else (some (false, t104)))
theorem pm_IsIrreducible.mono : ∀ a0 a1 k, LeO (pm_IsIrreducible.f k a0 a1) (pm_IsIrreducible.f (k + 1) a0 a1) := by
 intro a0 a1 k
 unfold pm_IsIrreducible.f
 with_reducible repeat' first | exact fp_Irreducible.mono _ _ _ | exact pm_first.mono _ _ _ | exact LeO.refl _ | exact LeO.none _ | refine LeO.ite ?_ ?_ | refine LeO.bind ?_ (fun _ => ?_)
theorem pm_IsIrreducible.calls (k : Nat) (a0 : Int) (P1_ : Nat → Prop) (A1 : Option Addr) (c1 : Nat) (l1 : List Int) (r1 : Bool) (r2 : Int) (w : World) (hs1 : Kd.V (Kd.int .i64) 3 w w.heap.size (fun k_ => P1_ k_) (.slice A1 l1.length c1) l1) (h : pm_IsIrreducible.f k a0 l1 = some (r1, r2)) :
  Calls Try.prog 40 #[.int .i64 a0, .slice A1 l1.length c1] w fun e w' => e = .returned (.tuple #[.bool r1, .int .i64 r2]) ∧ Below w.heap.size w w' := by
 have HO1 := zm (show Kd.V (Kd.int .i64) 3 w w.heap.size (fun k_ => (P1_ k_ ∨ w.heap.size ≤ k_)) (.slice A1 l1.length c1) l1 from Kd.V_mono hs1 (fun k_ hk => .inl hk))
 have HB := zm (Below.refl w.heap.size w)
 have H := h; clear h; unfold pm_IsIrreducible.f at H
 obtain ⟨y101, Ny101⟩ := zA ((([l1] : List (List Int))) : List (List Int)); rw [← Ny101.out] at H
 obtain ⟨t104, A3, H⟩ := zO H
 by_cases c4 : t104 = 0
 rotate_left
 ·rw [if_neg c4] at H
  obtain ⟨c4b0, c4b1⟩ := zU c4
  simp only [Option.some.injEq, Prod.mk.injEq] at H
  obtain ⟨rfl, rfl⟩ := H
  go_enter Try.func40, Try.ntmps40
  go_wp2_with (first | ((with_reducible refine gate_dst (N := 9) rfl ?_); refine Kd.N_lit (Kd.slice 3 (Kd.int .i64)) _ 25 ?hg (N' := 9) ?hd (xs := ([l1] : List (List Int))) (inner := [.slice A1 l1.length c1]) (ok := (fun k_ => (P1_ k_ ∨ w.heap.size ≤ k_))) (okp := (fun k_ => (P1_ k_ ∨ w.heap.size ≤ k_))) ?hr ?hp (fun _ hk => hk) ((show ∀ k_, w.heap.size ≤ k_ → (fun k_ => (P1_ k_ ∨ w.heap.size ≤ k_)) k_ from fun k_ hk => (.inr (Nat.le_trans (zS HB) hk))) _ (Nat.le_refl _)) (Below.refl _ _) (Nat.le_refl _) (by simp) ?_; (case hd => rfl); (case hg => rfl); (case hr => go_simp <;> rfl); (case hp => exact (Reps.one (show Kd.FK (Kd.slice 3 (Kd.int .i64)) _ _ l1 [.slice A1 l1.length c1] from (zFK HO1.out (fun k_ hk => hk))) (Reps.none _ _))); intro v102 w11 ho12 hb hg_ hnew_; clear hg_ hnew_; (first | rw [← Ny101.out] at ho12 | (simp only [Int.reduceToNat] at ho12; rw [← Ny101.out] at ho12)); replace HO1 := zm (Kd.V_elder' (zV HO1.out) (Kd.N_base ho12) hb); have HO103 := zm (Kd.N_lower ho12 (zS HB)); replace HB := zBb HB hb; clear hb ho12; obtain ⟨Ao13, co13, eo13⟩ := Kd.N_slice HO103.out; subst eo13) | ((with_reducible refine gate_callee (f := 79) rfl ?_); refine zG (some 10) Try.func79 #[.int .i64 a0, .slice Ao13 y101.length co13] ?_; (with_reducible refine (pm_first.calls k a0 _ _ y101 t104 _ (zC ((Kd.N_reads' HO103.out).2.2)) ((Kd.N_reads' HO103.out).2.1) A3.out).mono ?_); rintro e w14 ⟨rfl, hb⟩; refine ⟨_, rfl, ?_⟩; replace HO1 := zVb HO1 hb; replace HO103 := zNb HO103 hb; replace HB := zBb HB hb))
  go_ret2
  exact ⟨zQ, zT⟩
 rw [if_pos c4] at H
 obtain ⟨c4b0, c4b1⟩ := zE c4; clear c4
 obtain ⟨t105, A5, H⟩ := zO H
 simp only [Option.some.injEq, Prod.mk.injEq] at H
 obtain ⟨rfl, rfl⟩ := H
 go_enter Try.func40, Try.ntmps40
 go_wp2_with (first | ((with_reducible refine gate_dst (N := 9) rfl ?_); refine Kd.N_lit (Kd.slice 3 (Kd.int .i64)) _ 25 ?hg (N' := 9) ?hd (xs := ([l1] : List (List Int))) (inner := [.slice A1 l1.length c1]) (ok := (fun k_ => (P1_ k_ ∨ w.heap.size ≤ k_))) (okp := (fun k_ => (P1_ k_ ∨ w.heap.size ≤ k_))) ?hr ?hp (fun _ hk => hk) ((show ∀ k_, w.heap.size ≤ k_ → (fun k_ => (P1_ k_ ∨ w.heap.size ≤ k_)) k_ from fun k_ hk => (.inr (Nat.le_trans (zS HB) hk))) _ (Nat.le_refl _)) (Below.refl _ _) (Nat.le_refl _) (by simp) ?_; (case hd => rfl); (case hg => rfl); (case hr => go_simp <;> rfl); (case hp => exact (Reps.one (show Kd.FK (Kd.slice 3 (Kd.int .i64)) _ _ l1 [.slice A1 l1.length c1] from (zFK HO1.out (fun k_ hk => hk))) (Reps.none _ _))); intro v102 w6 ho7 hb hg_ hnew_; clear hg_ hnew_; (first | rw [← Ny101.out] at ho7 | (simp only [Int.reduceToNat] at ho7; rw [← Ny101.out] at ho7)); replace HO1 := zm (Kd.V_elder' (zV HO1.out) (Kd.N_base ho7) hb); have HO103 := zm (Kd.N_lower ho7 (zS HB)); replace HB := zBb HB hb; clear hb ho7; obtain ⟨Ao8, co8, eo8⟩ := Kd.N_slice HO103.out; subst eo8) | ((with_reducible refine gate_callee (f := 79) rfl ?_); refine zG (some 10) Try.func79 #[.int .i64 a0, .slice Ao8 y101.length co8] ?_; (with_reducible refine (pm_first.calls k a0 _ _ y101 t104 _ (zC ((Kd.N_reads' HO103.out).2.2)) ((Kd.N_reads' HO103.out).2.1) A3.out).mono ?_); rintro e w9 ⟨rfl, hb⟩; refine ⟨_, rfl, ?_⟩; replace HO1 := zVb HO1 hb; replace HO103 := zNb HO103 hb; replace HB := zBb HB hb) | ((with_reducible refine gate_callee (f := 46) rfl ?_); refine zG (some 16) Try.func46 #[.int .i64 a0, .slice A1 l1.length c1] ?_; (with_reducible refine (fp_Irreducible.calls k a0 _ _ l1 t105 _ (zC ((Kd.V_reads' HO1.out).2.2)) ((Kd.V_reads' HO1.out).2.1) A5.out).mono ?_); rintro e w10 ⟨rfl, hb⟩; refine ⟨_, rfl, ?_⟩; replace HO1 := zVb HO1 hb; replace HO103 := zNb HO103 hb; replace HB := zBb HB hb))
 go_ret2
 exact ⟨zQ, zT⟩
end Go.Proofs.Ytalnaafmonmlmaa.Q
end

/- Machine side and arithmetic of the law, put together by a program of the session. No conditions. -/
import Derived.Test.YtalnaafmonmlmaaGreatKQuot5
import Derived.Test.YtalnaafmonmlmaaGreatKQuot6
import Derived.Test.YtalnaafmonmlmaaGreatKQuot7
section
namespace Go.Proofs.YtalnaafmonmlmaaGreat.Q
open Go.RowKit Go.Proofs.YtalnaafmonmlmaaGreatW.PrintWords Go.Proofs.YtalnaafmonmlmaaGreatW.PrintLast Go.Proofs.YtalnaafmonmlmaaGreatW.PrintMore
attribute [local go_sem] max2_int min2_int max_two min_two max_three min_three max_four min_four
set_option linter.unusedVariables false
set_option linter.unusedSimpArgs false
set_option maxHeartbeats 8000000
set_option maxRecDepth 100000
def galoisref15_Check.j0 : Nat → Bool → Int → List Int → Option (Int)
 | 0, _, _, _ => none
 | k + 1, x18, x102000, x102001 => if x18 = true then (some 1) else ((galoisref09_IsIrreducible.f k x102000 x102001).bind fun t104 => (if t104 = true then (some 0) else (some 8)))
def galoisref15_Check.f (k : Nat) (a0_0 : Int) (l0_1 : List Int) : Option (Int) := (galoisref09_Check.f k a0_0 l0_1).bind fun t102 => (if t102 = 0 then (if (l0_1.length : Int) > 17 then (some 4) else (if (l0_1.length : Int) < 2 then (galoisref15_Check.j0 k true a0_0 l0_1) else ((galoisref09_Lead.f l0_1).bind fun t103 => (galoisref15_Check.j0 k (t103 != 1) a0_0 l0_1)))) else (some t102))
theorem galoisref15_Check.mono_l : ∀ k, (∀ y0 y1 y2, LeO (galoisref15_Check.j0 k y0 y1 y2) (galoisref15_Check.j0 (k + 1) y0 y1 y2))
 | 0 => fun _ _ _ r h => by simp [galoisref15_Check.j0] at h
 | k + 1 => by
  have ih0 := galoisref15_Check.mono_l k
  intro y0 y1 y2
  unfold galoisref15_Check.j0
  with_reducible repeat' first | exact ih0 _ _ _ | exact galoisref09_Check.mono _ _ _ | exact galoisref09_IsIrreducible.mono _ _ _ | exact LeO.refl _ | exact LeO.none _ | refine LeO.ite ?_ ?_ | refine LeO.bind ?_ (fun _ => ?_)
theorem galoisref15_Check.mono : ∀ a0 a1 k, LeO (galoisref15_Check.f k a0 a1) (galoisref15_Check.f (k + 1) a0 a1) := by
 intro a0 a1 k
 have ih0 := galoisref15_Check.mono_l k
 unfold galoisref15_Check.f
 with_reducible repeat' first | exact ih0 _ _ _ | exact galoisref09_Check.mono _ _ _ | exact galoisref09_IsIrreducible.mono _ _ _ | exact LeO.refl _ | exact LeO.none _ | refine LeO.ite ?_ ?_ | refine LeO.bind ?_ (fun _ => ?_)
theorem galoisref15_Check.calls (k : Nat) (a0_0 : Int) (A0_1 : Option Addr) (c0_1 : Nat) (l0_1 : List Int) (r : Int) (w : World) (hr0_1 : Kd.C (Kd.int .i64) w A0_1 l0_1.length l0_1) (hc0_1 : l0_1.length ≤ c0_1) (h : galoisref15_Check.f k a0_0 l0_1 = some r) :
  Calls Tryz.prog 18 #[.agg #[.int .i64 a0_0, .slice A0_1 l0_1.length c0_1]] w fun e w' => e = .returned (.int .i64 r) ∧ Below w.heap.size w w' := by
 have hu25 := Tryz.underlying25
 have HR0_1 := Aside0.mk hr0_1
 have HC0_1 := Aside0.mk hc0_1
 clear hr0_1 hc0_1
 have HB := Aside0.mk (Below.refl w.heap.size w)
 have H := h; clear h; unfold galoisref15_Check.f at H
 obtain ⟨t102, A2, H⟩ := zO H
 by_cases c3 : t102 = 0
 rotate_left
 ·rw [if_neg c3] at H
  obtain ⟨c3b0, c3b1⟩ := zU c3
  obtain rfl := Option.some.inj H
  go_enter Tryz.func18, Tryz.ntmps18
  go_wp2_with (first | ((with_reducible refine gate_dst (N := 1) rfl ?_); refine zb 1 #[.int .i64 a0_0, .slice A0_1 l0_1.length c0_1] 25 ?_; intro gb101 hg w21 hbox hb; have BK101 := Aside0.mk (hbox); have GW101 := zg HB hg; have GE101 := GW101; replace HB := zBb HB hb; clear hb hbox hg; obtain ⟨hcz22_0, hcz22_1, hfz22_0, hfz22_1⟩ := zf2 BK101) | ((with_reducible refine gate_callee (f := 50) rfl ?_); refine zG (some 8) Tryz.func50 #[.int .i64 a0_0, .slice A0_1 l0_1.length c0_1] ?_; (with_reducible refine (galoisref09_Check.calls k a0_0 _ _ l0_1 t102 _ (zC (Kd.C_below HR0_1.out HB.out)) HC0_1.out A2.out).mono ?_); rintro e w' ⟨rfl, ⟨nd, rfl⟩⟩; refine ⟨_, rfl, ?_⟩))
  go_ret
  exact ⟨zQ, zT⟩
 rw [if_pos c3] at H
 obtain ⟨c3b0, c3b1⟩ := zE c3; clear c3
 by_cases c4 : (l0_1.length : Int) > 17
 ·rw [if_pos c4] at H
  have c4b0 : decide (17 < (l0_1.length : Int)) = true := decide_eq_true c4
  have c4b1 : decide (17 < l0_1.length) = true := decide_eq_true (by omega)
  clear c4
  obtain rfl := Option.some.inj H
  go_enter Tryz.func18, Tryz.ntmps18
  go_wp2_with (first | ((with_reducible refine gate_dst (N := 1) rfl ?_); refine zb 1 #[.int .i64 a0_0, .slice A0_1 l0_1.length c0_1] 25 ?_; intro gb101 hg w5 hbox hb; have BK101 := Aside0.mk (hbox); have GW101 := zg HB hg; have GE101 := GW101; replace HB := zBb HB hb; clear hb hbox hg; obtain ⟨hcz6_0, hcz6_1, hfz6_0, hfz6_1⟩ := zf2 BK101) | ((with_reducible refine gate_callee (f := 50) rfl ?_); refine zG (some 8) Tryz.func50 #[.int .i64 a0_0, .slice A0_1 l0_1.length c0_1] ?_; (with_reducible refine (galoisref09_Check.calls k a0_0 _ _ l0_1 t102 _ (zC (Kd.C_below HR0_1.out HB.out)) HC0_1.out A2.out).mono ?_); rintro e w' ⟨rfl, ⟨nd, rfl⟩⟩; refine ⟨_, rfl, ?_⟩))
  go_ret
  exact ⟨zQ, zT⟩
 rw [if_neg c4] at H
 have c4b0 : decide (17 < (l0_1.length : Int)) = false := decide_eq_false c4
 have c4b1 : decide (17 < l0_1.length) = false := decide_eq_false (by omega)
 clear c4
 have HC7 := Aside0.mk H
 clear H
 go_enter Tryz.func18, Tryz.ntmps18
 go_upto_region 6 with (first | ((with_reducible refine gate_dst (N := 1) rfl ?_); refine zb 1 #[.int .i64 a0_0, .slice A0_1 l0_1.length c0_1] 25 ?_; intro gb101 hg w8 hbox hb; have BK101 := Aside0.mk (hbox); have GW101 := zg HB hg; have GE101 := GW101; replace HB := zBb HB hb; clear hb hbox hg; obtain ⟨hcz9_0, hcz9_1, hfz9_0, hfz9_1⟩ := zf2 BK101) | ((with_reducible refine gate_callee (f := 50) rfl ?_); refine zG (some 8) Tryz.func50 #[.int .i64 a0_0, .slice A0_1 l0_1.length c0_1] ?_; (with_reducible refine (galoisref09_Check.calls k a0_0 _ _ l0_1 t102 _ (zC (Kd.C_below HR0_1.out HB.out)) HC0_1.out A2.out).mono ?_); rintro e w' ⟨rfl, ⟨nd, rfl⟩⟩; refine ⟨_, rfl, ?_⟩))
 (try simp only [Act.put, List.setIfInBounds_toArray, List.set_cons_zero, List.set_cons_succ])
 go_cut [18] (fun v18 wc => ∃ (kq : Nat) (x18_6 : Bool), v18 = .bool x18_6 ∧ Aside0 (galoisref15_Check.j0 kq x18_6 a0_0 l0_1 = some r) ∧ Aside0 (kq ≤ k) ∧ Aside0 (wc.heap[gb101]? = some (.cells #[.int .i64 a0_0, (.slice A0_1 l0_1.length c0_1)] 25 (0, 0))) ∧ Aside0 (Below w.heap.size w wc))
 case first =>
  have H := HC7.out
  clear HC7
  by_cases c10 : (l0_1.length : Int) < 2
  ·rw [if_pos c10] at H
   have c10b0 : decide ((l0_1.length : Int) < 2) = true := decide_eq_true c10
   have c10b1 : decide (l0_1.length < 2) = true := decide_eq_true (by omega)
   clear c10
   (first | rw [c10b0] | (simp only [i64_w, i32_w]; rw [c10b0]) | skip)
   have H' := Aside0.mk H
   clear H
   obtain ⟨hcz11_0, hcz11_1, hfz11_0, hfz11_1⟩ := zf2 BK101
   go_wp2
   go_meet
   case rel => exact ⟨_, (true), zX, H', ⟨by first | omega | exact Nat.le_refl _⟩, ⟨zK BK101.out⟩, ⟨zT⟩⟩
  rw [if_neg c10] at H
  have c10b0 : decide ((l0_1.length : Int) < 2) = false := decide_eq_false c10
  have c10b1 : decide (l0_1.length < 2) = false := decide_eq_false (by omega)
  clear c10
  (first | rw [c10b0] | (simp only [i64_w, i32_w]; rw [c10b0]) | skip)
  obtain ⟨t103, A12, H⟩ := zO H
  have H' := Aside0.mk H
  clear H
  obtain ⟨hcz13_0, hcz13_1, hfz13_0, hfz13_1⟩ := zf2 BK101
  go_wp2_with (first | (go_at_call 52; (with_reducible refine (galoisref09_Lead.calls _ _ l0_1 t103 _ (zC (Kd.C_below HR0_1.out HB.out)) HC0_1.out A12.out).mono ?_); rintro e w' ⟨rfl, ⟨nd, rfl⟩⟩))
  go_meet
  case rel => exact ⟨_, ((t103 != 1)), zX, H', ⟨by first | omega | exact Nat.le_refl _⟩, ⟨zK BK101.out⟩, ⟨zT⟩⟩
 case rest =>
  clear HC7
  try clear c1; try clear p2; try clear c3; try clear c3b0; try clear c3b1; try clear c4; try clear c4b0; try clear c4b1; try clear c5; try clear c10; try clear c10b0; try clear c10b1; try clear hcz11_0; try clear hcz11_1; try clear hcz13_0; try clear hcz13_1; try clear hcz6_0; try clear hcz6_1; try clear hcz9_0; try clear hcz9_1; try clear hfz11_0; try clear hfz11_1; try clear hfz13_0; try clear hfz13_1; try clear hfz6_0; try clear hfz6_1; try clear hfz9_0; try clear hfz9_1
  obtain ⟨kq, x18_6, rfl, HA, HJ6, BK101, HB⟩ := hcut
  cases kq with
  | zero => exact absurd HA.out (by simp [galoisref15_Check.j0])
  | succ kj6 =>
   have H := HA.out
   clear HA
   simp only [galoisref15_Check.j0] at H
   by_cases c14 : x18_6 = true
   ·subst c14
    rw [if_pos rfl] at H
    obtain rfl := Option.some.inj H
    go_wp2
    go_ret
    exact ⟨zQ, zT⟩
   replace c14 := Bool.eq_false_iff.mpr c14
   subst c14
   rw [if_neg Bool.false_ne_true] at H
   obtain ⟨t104, A15, H⟩ := zO H
   by_cases c16 : t104 = true
   ·subst c16
    rw [if_pos rfl] at H
    obtain rfl := Option.some.inj H
    obtain ⟨hcz17_0, hcz17_1, hfz17_0, hfz17_1⟩ := zf2 BK101
    go_wp2_with (first | ((with_reducible refine gate_callee (f := 53) rfl ?_); refine zG (some 34) Tryz.func53 #[.int .i64 a0_0, .slice A0_1 l0_1.length c0_1] ?_; (with_reducible refine (galoisref09_IsIrreducible.calls kj6 a0_0 _ _ l0_1 true _ (zC (Kd.C_below HR0_1.out HB.out)) HC0_1.out A15.out).mono ?_); rintro e w18 ⟨rfl, hb⟩; refine ⟨_, rfl, ?_⟩; replace BK101 := zKb BK101 hb; replace HB := zBb HB hb; (try clear hb)))
    go_ret
    exact ⟨zQ, zT⟩
   replace c16 := Bool.eq_false_iff.mpr c16
   subst c16
   rw [if_neg Bool.false_ne_true] at H
   obtain rfl := Option.some.inj H
   obtain ⟨hcz19_0, hcz19_1, hfz19_0, hfz19_1⟩ := zf2 BK101
   go_wp2_with (first | ((with_reducible refine gate_callee (f := 53) rfl ?_); refine zG (some 34) Tryz.func53 #[.int .i64 a0_0, .slice A0_1 l0_1.length c0_1] ?_; (with_reducible refine (galoisref09_IsIrreducible.calls kj6 a0_0 _ _ l0_1 false _ (zC (Kd.C_below HR0_1.out HB.out)) HC0_1.out A15.out).mono ?_); rintro e w20 ⟨rfl, hb⟩; refine ⟨_, rfl, ?_⟩; replace BK101 := zKb BK101 hb; replace HB := zBb HB hb; (try clear hb)))
   go_ret
   exact ⟨zQ, zT⟩
def galoisref15_CheckElement.f (k : Nat) (a0_0 : Int) (l0_1 : List Int) (l1 : List Int) : Option (Int) := (galoisref15_Check.f k a0_0 l0_1).bind fun t102 => (if t102 = 0 then ((galoisref15_Member.f k a0_0 l0_1 l1).bind fun t103 => (some t103)) else ((galoisref15_Check.f k a0_0 l0_1).bind fun t104 => (some t104)))
theorem galoisref15_CheckElement.mono : ∀ a0 a1 a2 k, LeO (galoisref15_CheckElement.f k a0 a1 a2) (galoisref15_CheckElement.f (k + 1) a0 a1 a2) := by
 intro a0 a1 a2 k
 unfold galoisref15_CheckElement.f
 with_reducible repeat' first | exact galoisref15_Check.mono _ _ _ | exact galoisref15_Member.mono _ _ _ _ | exact LeO.refl _ | exact LeO.none _ | refine LeO.ite ?_ ?_ | refine LeO.bind ?_ (fun _ => ?_)
theorem galoisref15_CheckElement.calls (k : Nat) (a0_0 : Int) (A0_1 : Option Addr) (c0_1 : Nat) (l0_1 : List Int) (A1 : Option Addr) (c1 : Nat) (l1 : List Int) (r : Int) (w : World) (hr0_1 : Kd.C (Kd.int .i64) w A0_1 l0_1.length l0_1) (hc0_1 : l0_1.length ≤ c0_1) (hr1 : Kd.C (Kd.int .i64) w A1 l1.length l1) (hc1 : l1.length ≤ c1) (h : galoisref15_CheckElement.f k a0_0 l0_1 l1 = some r) :
  Calls Tryz.prog 11 #[.agg #[.int .i64 a0_0, .slice A0_1 l0_1.length c0_1], .slice A1 l1.length c1] w fun e w' => e = .returned (.int .i64 r) ∧ Below w.heap.size w w' := by
 have hu25 := Tryz.underlying25
 have HR0_1 := Aside0.mk hr0_1
 have HC0_1 := Aside0.mk hc0_1
 clear hr0_1 hc0_1
 have HR1 := Aside0.mk hr1
 have HC1 := Aside0.mk hc1
 clear hr1 hc1
 have HB := Aside0.mk (Below.refl w.heap.size w)
 have H := h; clear h; unfold galoisref15_CheckElement.f at H
 obtain ⟨t102, A3, H⟩ := zO H
 by_cases c4 : t102 = 0
 rotate_left
 ·rw [if_neg c4] at H
  obtain ⟨c4b0, c4b1⟩ := zU c4
  obtain ⟨t104, A11, H⟩ := zO H
  obtain rfl := Option.some.inj H
  go_enter Tryz.func11, Tryz.ntmps11
  go_wp2_with (first | ((with_reducible refine gate_dst (N := 2) rfl ?_); refine zb 2 #[.int .i64 a0_0, .slice A0_1 l0_1.length c0_1] 25 ?_; intro gb101 hg w12 hbox hb; have BK101 := Aside0.mk (hbox); have GW101 := zg HB hg; have GE101 := GW101; replace HB := zBb HB hb; clear hb hbox hg; obtain ⟨hcz13_0, hcz13_1, hfz13_0, hfz13_1⟩ := zf2 BK101) | ((with_reducible refine gate_callee (f := 18) rfl ?_); refine zG (some 6) Tryz.func18 #[.agg #[.int .i64 a0_0, .slice A0_1 l0_1.length c0_1]] ?_; (with_reducible refine (galoisref15_Check.calls k a0_0 _ _ l0_1 t102 _ (zC (Kd.C_below HR0_1.out HB.out)) HC0_1.out A3.out).mono ?_); rintro e w14 ⟨rfl, hb⟩; refine ⟨_, rfl, ?_⟩; replace BK101 := zKb BK101 hb; replace HB := zBb HB hb; (try clear hb); obtain ⟨hcz15_0, hcz15_1, hfz15_0, hfz15_1⟩ := zf2 BK101) | ((with_reducible refine gate_callee (f := 18) rfl ?_); refine zG (some 9) Tryz.func18 #[.agg #[.int .i64 a0_0, .slice A0_1 l0_1.length c0_1]] ?_; (with_reducible refine (galoisref15_Check.calls k a0_0 _ _ l0_1 t104 _ (zC (Kd.C_below HR0_1.out HB.out)) HC0_1.out A11.out).mono ?_); rintro e w16 ⟨rfl, hb⟩; refine ⟨_, rfl, ?_⟩; replace BK101 := zKb BK101 hb; replace HB := zBb HB hb; (try clear hb)))
  go_ret
  exact ⟨zQ, zT⟩
 rw [if_pos c4] at H
 obtain ⟨c4b0, c4b1⟩ := zE c4; clear c4
 obtain ⟨t103, A5, H⟩ := zO H
 obtain rfl := Option.some.inj H
 go_enter Tryz.func11, Tryz.ntmps11
 go_wp2_with (first | ((with_reducible refine gate_dst (N := 2) rfl ?_); refine zb 2 #[.int .i64 a0_0, .slice A0_1 l0_1.length c0_1] 25 ?_; intro gb101 hg w6 hbox hb; have BK101 := Aside0.mk (hbox); have GW101 := zg HB hg; have GE101 := GW101; replace HB := zBb HB hb; clear hb hbox hg; obtain ⟨hcz7_0, hcz7_1, hfz7_0, hfz7_1⟩ := zf2 BK101) | ((with_reducible refine gate_callee (f := 18) rfl ?_); refine zG (some 6) Tryz.func18 #[.agg #[.int .i64 a0_0, .slice A0_1 l0_1.length c0_1]] ?_; (with_reducible refine (galoisref15_Check.calls k a0_0 _ _ l0_1 t102 _ (zC (Kd.C_below HR0_1.out HB.out)) HC0_1.out A3.out).mono ?_); rintro e w8 ⟨rfl, hb⟩; refine ⟨_, rfl, ?_⟩; replace BK101 := zKb BK101 hb; replace HB := zBb HB hb; (try clear hb); obtain ⟨hcz9_0, hcz9_1, hfz9_0, hfz9_1⟩ := zf2 BK101) | ((with_reducible refine gate_callee (f := 16) rfl ?_); refine zG (some 12) Tryz.func16 #[.agg #[.int .i64 a0_0, .slice A0_1 l0_1.length c0_1], .slice A1 l1.length c1] ?_; (with_reducible refine (galoisref15_Member.calls k a0_0 _ _ l0_1 _ _ l1 t103 _ (zC (Kd.C_below HR0_1.out HB.out)) HC0_1.out (zC (Kd.C_below HR1.out HB.out)) HC1.out A5.out).mono ?_); rintro e w10 ⟨rfl, hb⟩; refine ⟨_, rfl, ?_⟩; replace BK101 := zKb BK101 hb; replace HB := zBb HB hb; (try clear hb)))
 go_ret
 exact ⟨zQ, zT⟩
def galoisref01_Valid.f (a0 : ByteArray) : Option (Bool) := if a0.toList = ([] : List UInt8) then (some true) else (if 0 < (a0.size : Int) then (some ((bt a0 0) != 0)) else (none))
theorem galoisref01_Valid.calls (a0 : ByteArray) (r : Bool) (w : World) (h : galoisref01_Valid.f a0 = some r) :
  Calls Tryz.prog 46 #[.string a0] w fun e w' => e = .returned (.bool r) ∧ Drawn0 w w' := by
 have H := h; clear h; unfold galoisref01_Valid.f at H
 by_cases c2 : a0.toList = ([] : List UInt8)
 ·rw [if_pos c2] at H
  have c2b0 : (a0.toList == ([] : List UInt8)) = true := beq_iff_eq.mpr c2
  have c2b1 : (a0.toList != ([] : List UInt8)) = false := bne_eq_false_iff_eq.mpr c2
  clear c2
  obtain rfl := Option.some.inj H
  go_enter Tryz.func46, Tryz.ntmps46
  go_wp2
  go_ret
  exact ⟨by first | rfl | (simp; done) | (simp [*]; done), by repeat (first | exact Drawn0.refl _ | apply Drawn0.step)⟩
 rw [if_neg c2] at H
 have c2b0 : (a0.toList == ([] : List UInt8)) = false := beq_eq_false_iff_ne.mpr c2
 have c2b1 : (a0.toList != ([] : List UInt8)) = true := bne_iff_ne.mpr c2
 by_cases c3 : 0 < (a0.size : Int)
 rotate_left
 ·rw [if_neg c3] at H
  exact absurd H (by simp)
 rw [if_pos c3] at H
 have c3b0 : decide (0 < (a0.size : Int)) = true := decide_eq_true c3
 have c3b1 : decide (0 < a0.size) = true := decide_eq_true (by omega)
 clear c3
 obtain rfl := Option.some.inj H
 have p4 : 0 ≤ (0 : Int) := (by omega)
 have q4 : 0 < a0.size := (by have : (0 : Int) < (a0.size : Int) := zD; omega)
 have hx4 : ∀ h : 0 < a0.size, ((a0[0]'h).toNat : Int) = bt a0 0 := bt_at a0 0
 clear p4
 have qi4 : (0 < (a0.size : Int)) = True := eq_true zD
 replace q4 := eq_true q4
 go_enter Tryz.func46, Tryz.ntmps46
 go_wp2
 go_ret
 exact ⟨by first | rfl | (simp; done) | (simp [*]; done), by repeat (first | exact Drawn0.refl _ | apply Drawn0.step)⟩
def galoisref01_Fits.f (a0 : ByteArray) : Option (Int) := if (a0.size : Int) > 1024 then (some 4) else (some 0)
theorem galoisref01_Fits.calls (a0 : ByteArray) (r : Int) (w : World) (h : galoisref01_Fits.f a0 = some r) :
  Calls Tryz.prog 47 #[.string a0] w fun e w' => e = .returned (.int .i64 r) ∧ Drawn0 w w' := by
 have H := h; clear h; unfold galoisref01_Fits.f at H
 by_cases c2 : (a0.size : Int) > 1024
 ·rw [if_pos c2] at H
  have c2b0 : decide (1024 < (a0.size : Int)) = true := decide_eq_true c2
  have c2b1 : decide (1024 < a0.size) = true := decide_eq_true (by omega)
  clear c2
  obtain rfl := Option.some.inj H
  go_enter Tryz.func47, Tryz.ntmps47
  go_wp2
  go_ret
  exact ⟨by first | rfl | (simp; done) | (simp [*]; done), by repeat (first | exact Drawn0.refl _ | apply Drawn0.step)⟩
 rw [if_neg c2] at H
 have c2b0 : decide (1024 < (a0.size : Int)) = false := decide_eq_false c2
 have c2b1 : decide (1024 < a0.size) = false := decide_eq_false (by omega)
 clear c2
 obtain rfl := Option.some.inj H
 go_enter Tryz.func47, Tryz.ntmps47
 go_wp2
 go_ret
 exact ⟨by first | rfl | (simp; done) | (simp [*]; done), by repeat (first | exact Drawn0.refl _ | apply Drawn0.step)⟩
def galoisref01_Check.f (a0 : ByteArray) : Option (Int) := (galoisref01_Valid.f a0).bind fun t101 => (if t101 = true then ((galoisref01_Fits.f a0).bind fun t102 => (some t102)) else (some 1))
theorem galoisref01_Check.calls (a0 : ByteArray) (r : Int) (w : World) (h : galoisref01_Check.f a0 = some r) :
  Calls Tryz.prog 13 #[.string a0] w fun e w' => e = .returned (.int .i64 r) ∧ Drawn0 w w' := by
 have H := h; clear h; unfold galoisref01_Check.f at H
 obtain ⟨t101, A2, H⟩ := zO H
 by_cases c3 : t101 = true
 rotate_left
 ·replace c3 := Bool.eq_false_iff.mpr c3
  subst c3
  rw [if_neg Bool.false_ne_true] at H
  obtain rfl := Option.some.inj H
  go_enter Tryz.func13, Tryz.ntmps13
  go_wp2_with (first | ((with_reducible refine gate_callee (f := 46) rfl ?_); refine zG (some 4) Tryz.func46 #[.string a0] ?_; (with_reducible refine (galoisref01_Valid.calls a0 false _ A2.out).mono ?_); rintro e w' ⟨rfl, ⟨nd, rfl⟩⟩; refine ⟨_, rfl, ?_⟩))
  go_ret
  exact ⟨by first | rfl | (simp; done) | (simp [*]; done), by repeat (first | exact Drawn0.refl _ | apply Drawn0.step)⟩
 subst c3
 rw [if_pos rfl] at H
 obtain ⟨t102, A4, H⟩ := zO H
 obtain rfl := Option.some.inj H
 go_enter Tryz.func13, Tryz.ntmps13
 go_wp2_with (first | ((with_reducible refine gate_callee (f := 46) rfl ?_); refine zG (some 4) Tryz.func46 #[.string a0] ?_; (with_reducible refine (galoisref01_Valid.calls a0 true _ A2.out).mono ?_); rintro e w' ⟨rfl, ⟨nd, rfl⟩⟩; refine ⟨_, rfl, ?_⟩) | ((with_reducible refine gate_callee (f := 47) rfl ?_); refine zG (some 7) Tryz.func47 #[.string a0] ?_; (with_reducible refine (galoisref01_Fits.calls a0 t102 _ A4.out).mono ?_); rintro e w' ⟨rfl, ⟨nd, rfl⟩⟩; refine ⟨_, rfl, ?_⟩))
 go_ret
 exact ⟨by first | rfl | (simp; done) | (simp [*]; done), by repeat (first | exact Drawn0.refl _ | apply Drawn0.step)⟩
def galoisref09_Xgcd.l0 : Nat → Int → List Int → List Int → List Int → List Int → List Int → List Int → Option (List Int × List Int × List Int)
 | 0, _, _, _, _, _, _, _ => none
 | k + 1, x0, x1, x2, x9, x10, x11, x12 => if (x2.length : Int) > 0 then ((galoisref09_DivMod.f k x0 x1 x2).bind fun bt113 => ((galoisref09_Mul.f k x0 bt113.1 x10).bind fun t119 => ((galoisref09_Sub.f k x0 x9 t119).bind fun t122 => ((galoisref09_Mul.f k x0 bt113.1 x12).bind fun t125 => ((galoisref09_Sub.f k x0 x11 t125).bind fun t128 => (galoisref09_Xgcd.l0 k x0 x2 bt113.2 x10 t122 x12 t128)))))) else (if (x1.length : Int) = 0 then (some (([] : List Int), ([] : List Int), ([] : List Int))) else ((galoisref09_Lead.f x1).bind fun t131 => ((galoisref04_Inverse.f k t131 x0).bind fun t132 => ((galoisref09_Scale.f k x0 x1 t132).bind fun t133 => ((galoisref09_Scale.f k x0 x9 t132).bind fun t136 => ((galoisref09_Scale.f k x0 x11 t132).bind fun t139 => (some (t133, t136, t139))))))))
def galoisref09_Xgcd.f (k : Nat) (a0 : Int) (l1 : List Int) (l2 : List Int) : Option (List Int × List Int × List Int) := galoisref09_Xgcd.l0 k a0 l1 l2 (([1] : List Int)) (([] : List Int)) (([] : List Int)) (([1] : List Int))
theorem galoisref09_Xgcd.mono_l : ∀ k, (∀ y0 y1 y2 y3 y4 y5 y6, LeO (galoisref09_Xgcd.l0 k y0 y1 y2 y3 y4 y5 y6) (galoisref09_Xgcd.l0 (k + 1) y0 y1 y2 y3 y4 y5 y6))
 | 0 => fun _ _ _ _ _ _ _ r h => by simp [galoisref09_Xgcd.l0] at h
 | k + 1 => by
  have ih0 := galoisref09_Xgcd.mono_l k
  intro y0 y1 y2 y3 y4 y5 y6
  unfold galoisref09_Xgcd.l0
  with_reducible repeat' first | exact ih0 _ _ _ _ _ _ _ | exact galoisref04_Inverse.mono _ _ _ | exact galoisref09_DivMod.mono _ _ _ _ | exact galoisref09_Mul.mono _ _ _ _ | exact galoisref09_Scale.mono _ _ _ _ | exact galoisref09_Sub.mono _ _ _ _ | exact LeO.refl _ | exact LeO.none _ | refine LeO.ite ?_ ?_ | refine LeO.bind ?_ (fun _ => ?_)
theorem galoisref09_Xgcd.mono : ∀ a0 a1 a2 k, LeO (galoisref09_Xgcd.f k a0 a1 a2) (galoisref09_Xgcd.f (k + 1) a0 a1 a2) := by
 intro a0 a1 a2 k
 have ih0 := galoisref09_Xgcd.mono_l k
 unfold galoisref09_Xgcd.f
 with_reducible repeat' first | exact ih0 _ _ _ _ _ _ _ | exact galoisref04_Inverse.mono _ _ _ | exact galoisref09_DivMod.mono _ _ _ _ | exact galoisref09_Mul.mono _ _ _ _ | exact galoisref09_Scale.mono _ _ _ _ | exact galoisref09_Sub.mono _ _ _ _ | exact LeO.refl _ | exact LeO.none _ | refine LeO.ite ?_ ?_ | refine LeO.bind ?_ (fun _ => ?_)
theorem galoisref09_Xgcd.calls (k : Nat) (a0 : Int) (P1_ : Nat → Prop) (A1 : Option Addr) (c1 : Nat) (l1 : List Int) (P2_ : Nat → Prop) (A2 : Option Addr) (c2 : Nat) (l2 : List Int) (r1 : List Int) (r2 : List Int) (r3 : List Int) (w : World) (hs1 : Kd.V (Kd.int .i64) 3 w w.heap.size (fun k_ => P1_ k_) (.slice A1 l1.length c1) l1) (hs2 : Kd.V (Kd.int .i64) 3 w w.heap.size (fun k_ => P2_ k_) (.slice A2 l2.length c2) l2) (h : galoisref09_Xgcd.f k a0 l1 l2 = some (r1, r2, r3)) :
  Calls Tryz.prog 88 #[.int .i64 a0, .slice A1 l1.length c1, .slice A2 l2.length c2] w fun e w' => ∃ v0_ v1_ v2_ : Value, e = .returned (.tuple #[v0_, v1_, v2_]) ∧ Kd.V (Kd.int .i64) 3 w' w.heap.size (fun k_ => ((P1_ k_ ∨ P2_ k_) ∨ w.heap.size ≤ k_)) v0_ r1 ∧ Kd.V (Kd.int .i64) 3 w' w.heap.size (fun k_ => ((P1_ k_ ∨ P2_ k_) ∨ w.heap.size ≤ k_)) v1_ r2 ∧ Kd.V (Kd.int .i64) 3 w' w.heap.size (fun k_ => ((P1_ k_ ∨ P2_ k_) ∨ w.heap.size ≤ k_)) v2_ r3 ∧ Below w.heap.size w w' := by
 have HO1 := Aside0.mk (show Kd.V (Kd.int .i64) 3 w w.heap.size (fun k_ => ((P1_ k_ ∨ P2_ k_) ∨ w.heap.size ≤ k_)) (.slice A1 l1.length c1) l1 from Kd.V_mono hs1 (fun k_ hk => .inl (.inl hk)))
 have HO2 := Aside0.mk (show Kd.V (Kd.int .i64) 3 w w.heap.size (fun k_ => ((P1_ k_ ∨ P2_ k_) ∨ w.heap.size ≤ k_)) (.slice A2 l2.length c2) l2 from Kd.V_mono hs2 (fun k_ hk => .inl (.inr hk)))
 have HB := Aside0.mk (Below.refl w.heap.size w)
 have H := h; clear h; unfold galoisref09_Xgcd.f at H
 obtain ⟨y101, hy101⟩ : ∃ y_ : List Int, y_ = (([1] : List Int)) := ⟨_, rfl⟩
 replace H : (galoisref09_Xgcd.l0 k a0 l1 l2 y101 (([] : List Int)) (([] : List Int)) (([1] : List Int))) = some (r1, r2, r3) := by first | (rw [hy101]; with_reducible exact H) | (have H2_ := (Option.bind_some _ _).symm.trans H; rw [hy101]; with_reducible exact H2_) | (have H2_ := (Option.bind_some _ _).symm.trans H; with_reducible exact H2_) | with_reducible exact H | (rw [hy101]; exact H) | exact H
 have Ny101 := Aside0.mk hy101
 clear hy101
 obtain ⟨y104, hy104⟩ : ∃ y_ : List Int, y_ = (([] : List Int)) := ⟨_, rfl⟩
 replace H : (galoisref09_Xgcd.l0 k a0 l1 l2 y101 y104 (([] : List Int)) (([1] : List Int))) = some (r1, r2, r3) := by first | (rw [hy104]; with_reducible exact H) | (have H2_ := (Option.bind_some _ _).symm.trans H; rw [hy104]; with_reducible exact H2_) | (have H2_ := (Option.bind_some _ _).symm.trans H; with_reducible exact H2_) | with_reducible exact H | (rw [hy104]; exact H) | exact H
 have Ny104 := Aside0.mk hy104
 clear hy104
 obtain ⟨y107, hy107⟩ : ∃ y_ : List Int, y_ = (([] : List Int)) := ⟨_, rfl⟩
 replace H : (galoisref09_Xgcd.l0 k a0 l1 l2 y101 y104 y107 (([1] : List Int))) = some (r1, r2, r3) := by first | (rw [hy107]; with_reducible exact H) | (have H2_ := (Option.bind_some _ _).symm.trans H; rw [hy107]; with_reducible exact H2_) | (have H2_ := (Option.bind_some _ _).symm.trans H; with_reducible exact H2_) | with_reducible exact H | (rw [hy107]; exact H) | exact H
 have Ny107 := Aside0.mk hy107
 clear hy107
 obtain ⟨y110, hy110⟩ : ∃ y_ : List Int, y_ = (([1] : List Int)) := ⟨_, rfl⟩
 replace H : (galoisref09_Xgcd.l0 k a0 l1 l2 y101 y104 y107 y110) = some (r1, r2, r3) := by first | (rw [hy110]; with_reducible exact H) | (have H2_ := (Option.bind_some _ _).symm.trans H; rw [hy110]; with_reducible exact H2_) | (have H2_ := (Option.bind_some _ _).symm.trans H; with_reducible exact H2_) | with_reducible exact H | (rw [hy110]; exact H) | exact H
 have Ny110 := Aside0.mk hy110
 clear hy110
 have H' := Aside0.mk H
 clear H
 go_enter Tryz.func88, Tryz.ntmps88
 go_wp2_with (first | ((with_reducible refine gate_dst (N := 16) rfl ?_); refine Kd.R_lit (Kd.int .i64) _ 3 ?hg (N := 16) ?hd (xs := ([1] : List Int)) (inner := [.int .i64 1]) (ok := fun _ => True) (okp := fun _ => True) ?hr ?hp (fun _ hk => hk) trivial (Below.refl _ _) (Nat.le_refl _) (by simp) ?_; (case hd => rfl); (case hg => rfl); (case hr => go_simp <;> rfl); (case hp => exact (Reps.one (show Kd.M (Kd.int .i64) _ _ _ 1 [.int .i64 1] from rfl) (Reps.none _ _))); intro v102 w4 ho5 hb hg_ hnew_; clear hg_ hnew_; (first | rw [← Ny101.out] at ho5 | (simp only [Int.reduceToNat] at ho5; rw [← Ny101.out] at ho5)); replace HO1 := Aside0.mk (Kd.V_elder' (zV HO1.out) (Kd.R_base ho5) hb); replace HO2 := Aside0.mk (Kd.V_elder' (zV HO2.out) (Kd.R_base ho5) hb); have HO103 := Aside0.mk (Kd.R_lower (Kd.R_newM (M := fun k_ => (w.heap.size ≤ k_)) ho5 (zS HB) (fun k_ h_ => h_)) (zS HB)); replace HB := zBb HB hb; clear hb ho5) | ((with_reducible refine gate_dst (N := 17) rfl ?_); refine Kd.R_lit (Kd.int .i64) _ 3 ?hg (N := 17) ?hd (xs := ([] : List Int)) (inner := []) (ok := fun _ => True) (okp := fun _ => True) ?hr ?hp (fun _ hk => hk) trivial (Below.refl _ _) (Nat.le_refl _) (by simp) ?_; (case hd => rfl); (case hg => rfl); (case hr => go_simp <;> rfl); (case hp => exact (Reps.none _ _)); intro v105 w6 ho7 hb hg_ hnew_; clear hg_ hnew_; (first | rw [← Ny104.out] at ho7 | (simp only [Int.reduceToNat] at ho7; rw [← Ny104.out] at ho7)); replace HO1 := Aside0.mk (Kd.V_elder' (zV HO1.out) (Kd.R_base ho7) hb); replace HO2 := Aside0.mk (Kd.V_elder' (zV HO2.out) (Kd.R_base ho7) hb); have HO106 := Aside0.mk (Kd.R_lower (Kd.R_new' (Kd.R_newM (M := fun k_ => (w.heap.size ≤ k_)) ho7 (zS HB) (fun k_ h_ => h_)) (Kd.R_lt (zR HO103.out))) (zS HB)); replace HO103 := Aside0.mk (Kd.R_elder' (zR HO103.out) (Kd.R_base ho7) hb); replace HB := zBb HB hb; clear hb ho7) | ((with_reducible refine gate_dst (N := 18) rfl ?_); refine Kd.R_lit (Kd.int .i64) _ 3 ?hg (N := 18) ?hd (xs := ([] : List Int)) (inner := []) (ok := fun _ => True) (okp := fun _ => True) ?hr ?hp (fun _ hk => hk) trivial (Below.refl _ _) (Nat.le_refl _) (by simp) ?_; (case hd => rfl); (case hg => rfl); (case hr => go_simp <;> rfl); (case hp => exact (Reps.none _ _)); intro v108 w8 ho9 hb hg_ hnew_; clear hg_ hnew_; (first | rw [← Ny107.out] at ho9 | (simp only [Int.reduceToNat] at ho9; rw [← Ny107.out] at ho9)); replace HO1 := Aside0.mk (Kd.V_elder' (zV HO1.out) (Kd.R_base ho9) hb); replace HO2 := Aside0.mk (Kd.V_elder' (zV HO2.out) (Kd.R_base ho9) hb); have HO109 := Aside0.mk (Kd.R_lower (Kd.R_new' (Kd.R_new' (Kd.R_newM (M := fun k_ => (w.heap.size ≤ k_)) ho9 (zS HB) (fun k_ h_ => h_)) (Kd.R_lt (zR HO103.out))) (Kd.R_lt (zR HO106.out))) (zS HB)); replace HO103 := Aside0.mk (Kd.R_elder' (zR HO103.out) (Kd.R_base ho9) hb); replace HO106 := Aside0.mk (Kd.R_elder' (zR HO106.out) (Kd.R_base ho9) hb); replace HB := zBb HB hb; clear hb ho9) | ((with_reducible refine gate_dst (N := 19) rfl ?_); refine Kd.R_lit (Kd.int .i64) _ 3 ?hg (N := 19) ?hd (xs := ([1] : List Int)) (inner := [.int .i64 1]) (ok := fun _ => True) (okp := fun _ => True) ?hr ?hp (fun _ hk => hk) trivial (Below.refl _ _) (Nat.le_refl _) (by simp) ?_; (case hd => rfl); (case hg => rfl); (case hr => go_simp <;> rfl); (case hp => exact (Reps.one (show Kd.M (Kd.int .i64) _ _ _ 1 [.int .i64 1] from rfl) (Reps.none _ _))); intro v111 w10 ho11 hb hg_ hnew_; clear hg_ hnew_; (first | rw [← Ny110.out] at ho11 | (simp only [Int.reduceToNat] at ho11; rw [← Ny110.out] at ho11)); replace HO1 := Aside0.mk (Kd.V_elder' (zV HO1.out) (Kd.R_base ho11) hb); replace HO2 := Aside0.mk (Kd.V_elder' (zV HO2.out) (Kd.R_base ho11) hb); have HO112 := Aside0.mk (Kd.R_lower (Kd.R_new' (Kd.R_new' (Kd.R_new' (Kd.R_newM (M := fun k_ => (w.heap.size ≤ k_)) ho11 (zS HB) (fun k_ h_ => h_)) (Kd.R_lt (zR HO103.out))) (Kd.R_lt (zR HO106.out))) (Kd.R_lt (zR HO109.out))) (zS HB)); replace HO103 := Aside0.mk (Kd.R_elder' (zR HO103.out) (Kd.R_base ho11) hb); replace HO106 := Aside0.mk (Kd.R_elder' (zR HO106.out) (Kd.R_base ho11) hb); replace HO109 := Aside0.mk (Kd.R_elder' (zR HO109.out) (Kd.R_base ho11) hb); replace HB := zBb HB hb; clear hb ho11))
 go_loopg [1, 2, 9, 10, 11, 12] k (fun kq v1 v2 v9 v10 v11 v12 w' => ∃ (x1_1 : List Int) (x2_1 : List Int) (x9_1 : List Int) (x10_1 : List Int) (x11_1 : List Int) (x12_1 : List Int), Aside0 (galoisref09_Xgcd.l0 kq a0 x1_1 x2_1 x9_1 x10_1 x11_1 x12_1 = some (r1, r2, r3)) ∧ Aside0 (kq ≤ k) ∧ Aside0 (Kd.V (Kd.int .i64) 3 w' w.heap.size (fun k_ => ((P1_ k_ ∨ P2_ k_) ∨ w.heap.size ≤ k_)) v1 x1_1) ∧ Aside0 (Kd.V (Kd.int .i64) 3 w' w.heap.size (fun k_ => ((P1_ k_ ∨ P2_ k_) ∨ w.heap.size ≤ k_)) v2 x2_1) ∧ Aside0 (Kd.V (Kd.int .i64) 3 w' w.heap.size (fun k_ => ((P1_ k_ ∨ P2_ k_) ∨ w.heap.size ≤ k_)) v9 x9_1) ∧ Aside0 (Kd.V (Kd.int .i64) 3 w' w.heap.size (fun k_ => ((P1_ k_ ∨ P2_ k_) ∨ w.heap.size ≤ k_)) v10 x10_1) ∧ Aside0 (Kd.V (Kd.int .i64) 3 w' w.heap.size (fun k_ => ((P1_ k_ ∨ P2_ k_) ∨ w.heap.size ≤ k_)) v11 x11_1) ∧ Aside0 (Kd.V (Kd.int .i64) 3 w' w.heap.size (fun k_ => ((P1_ k_ ∨ P2_ k_) ∨ w.heap.size ≤ k_)) v12 x12_1) ∧ Aside0 (Below w.heap.size w w'))
 case atStart => exact ⟨(l1), (l2), (y101), (y104), (y107), (y110), H', ⟨Nat.le_refl _⟩, ⟨zV (Kd.V_mono HO1.out (fun _ hk => hk.1.1.1.1))⟩, ⟨zV (Kd.V_mono HO2.out (fun _ hk => hk.1.1.1.1))⟩, ⟨Kd.V_mono (Kd.R_V (zR (Kd.R_mono HO103.out (fun _ hk => hk.1.1.1.1)))) (fun k_ hk => by first | exact ⟨(.inr (hk.1)), hk.2⟩ | exact (.inr (hk)))⟩, ⟨Kd.V_mono (Kd.R_V (zR (Kd.R_mono HO106.out (fun _ hk => hk.1.1.1.1)))) (fun k_ hk => by first | exact ⟨(.inr (hk.1)), hk.2⟩ | exact (.inr (hk)))⟩, ⟨Kd.V_mono (Kd.R_V (zR (Kd.R_mono HO109.out (fun _ hk => hk.1.1.1.1)))) (fun k_ hk => by first | exact ⟨(.inr (hk.1)), hk.2⟩ | exact (.inr (hk)))⟩, ⟨Kd.V_mono (Kd.R_V (zR (Kd.R_mono HO112.out (fun _ hk => hk.1.1.1.1)))) (fun k_ hk => by first | exact ⟨(.inr (hk.1)), hk.2⟩ | exact (.inr (hk)))⟩, ⟨zT⟩⟩
 case round =>
  clear H'
  try clear c1; try clear c2; try clear p2; try clear c8
  obtain ⟨x1_1, x2_1, x9_1, x10_1, x11_1, x12_1, HA, HK1, HO_1, HO_2, HO_9, HO_10, HO_11, HO_12, HB⟩ := hrel
  cases gk with
  | zero => exact absurd HA.out (by simp [galoisref09_Xgcd.l0])
  | succ k1 =>
   have H := HA.out
   clear HA
   simp only [galoisref09_Xgcd.l0] at H
   by_cases c12 : (x2_1.length : Int) > 0
   rotate_left
   ·rw [if_neg c12] at H
    have c12b0 : decide (0 < (x2_1.length : Int)) = false := decide_eq_false c12
    have c12b1 : decide (0 < x2_1.length) = false := decide_eq_false (by omega)
    clear c12
    by_cases c32 : (x1_1.length : Int) = 0
    ·rw [if_pos c32] at H
     obtain ⟨c32b0, c32b1⟩ := zE c32; clear c32
     simp only [Option.some.injEq, Prod.mk.injEq] at H
     obtain ⟨rfl, rfl, rfl⟩ := H
     obtain ⟨Ao33, co33, eo33⟩ := Kd.V_slice HO_2.out
     subst eo33
     obtain ⟨Ao34, co34, eo34⟩ := Kd.V_slice HO_1.out
     subst eo34
     go_wp2
     go_ret3
     exact ⟨_, _, _, zQ, zL, zL, zL, zT⟩
    rw [if_neg c32] at H
    obtain ⟨c32b0, c32b1⟩ := zU c32
    have c32b2 : ¬ (x1_1 = []) := fun h_ => c32 (by rw [h_]; rfl)
    obtain ⟨t131, A35, H⟩ := zO H
    obtain ⟨t132, A36, H⟩ := zO H
    obtain ⟨t133, A37, H⟩ := zO H
    obtain ⟨t136, A38, H⟩ := zO H
    obtain ⟨t139, A39, H⟩ := zO H
    simp only [Option.some.injEq, Prod.mk.injEq] at H
    obtain ⟨rfl, rfl, rfl⟩ := H
    obtain ⟨Ao40, co40, eo40⟩ := Kd.V_slice HO_2.out
    subst eo40
    obtain ⟨Ao41, co41, eo41⟩ := Kd.V_slice HO_1.out
    subst eo41
    go_wp2_with (first | ((with_reducible refine gate_callee (f := 52) rfl ?_); refine zG (some 52) Tryz.func52 #[.slice Ao41 x1_1.length co41] ?_; (with_reducible refine (galoisref09_Lead.calls _ _ x1_1 t131 _ (zC ((Kd.V_reads' HO_1.out).2.2)) ((Kd.V_reads' HO_1.out).2.1) A35.out).mono ?_); rintro e w' ⟨rfl, ⟨nd, rfl⟩⟩; refine ⟨_, rfl, ?_⟩) | ((with_reducible refine gate_callee (f := 118) rfl ?_); refine zG (some 54) Tryz.func118 #[.int .i64 t131, .int .i64 a0] ?_; (with_reducible refine (galoisref04_Inverse.calls k1 t131 a0 t132 _ A36.out).mono ?_); rintro e w' ⟨rfl, ⟨nd, rfl⟩⟩; refine ⟨_, rfl, ?_⟩) | ((with_reducible refine gate_callee (f := 119) rfl ?_); refine zG (some 58) Tryz.func119 #[.int .i64 a0, .slice Ao41 x1_1.length co41, .int .i64 t132] ?_; (with_reducible refine (galoisref09_Scale.calls k1 a0 _ _ x1_1 t132 t133 _ (zC ((Kd.V_reads' HO_1.out).2.2)) ((Kd.V_reads' HO_1.out).2.1) A37.out).mono ?_); rintro e w42 ⟨v134, rfl, ho0, hb⟩; refine ⟨_, rfl, ?_⟩; replace HO_1 := zVb HO_1 hb; replace HO_2 := zVb HO_2 hb; replace HO_9 := zVb HO_9 hb; replace HO_10 := zVb HO_10 hb; replace HO_11 := zVb HO_11 hb; replace HO_12 := zVb HO_12 hb; have HO135 := zWV (fun k_ => ((P1_ k_ ∨ P2_ k_) ∨ w.heap.size ≤ k_)) ho0 HB (fun k_ hk_ => (.inr (Nat.le_trans (zS HB) hk_))); replace HB := zBb HB hb; (try clear hb); (try clear ho0); obtain ⟨Ao43, co43, eo43⟩ := Kd.V_slice HO_9.out; subst eo43) | ((with_reducible refine gate_callee (f := 119) rfl ?_); refine zG (some 62) Tryz.func119 #[.int .i64 a0, .slice Ao43 x9_1.length co43, .int .i64 t132] ?_; (with_reducible refine (galoisref09_Scale.calls k1 a0 _ _ x9_1 t132 t136 _ (zC ((Kd.V_reads' HO_9.out).2.2)) ((Kd.V_reads' HO_9.out).2.1) A38.out).mono ?_); rintro e w44 ⟨v137, rfl, ho0, hb⟩; refine ⟨_, rfl, ?_⟩; replace HO_1 := zVb HO_1 hb; replace HO_2 := zVb HO_2 hb; replace HO_9 := zVb HO_9 hb; replace HO_10 := zVb HO_10 hb; replace HO_11 := zVb HO_11 hb; replace HO_12 := zVb HO_12 hb; replace HO135 := zVb HO135 hb; have HO138 := zWV (fun k_ => ((P1_ k_ ∨ P2_ k_) ∨ w.heap.size ≤ k_)) ho0 HB (fun k_ hk_ => (.inr (Nat.le_trans (zS HB) hk_))); replace HB := zBb HB hb; (try clear hb); (try clear ho0); obtain ⟨Ao45, co45, eo45⟩ := Kd.V_slice HO_11.out; subst eo45) | ((with_reducible refine gate_callee (f := 119) rfl ?_); refine zG (some 66) Tryz.func119 #[.int .i64 a0, .slice Ao45 x11_1.length co45, .int .i64 t132] ?_; (with_reducible refine (galoisref09_Scale.calls k1 a0 _ _ x11_1 t132 t139 _ (zC ((Kd.V_reads' HO_11.out).2.2)) ((Kd.V_reads' HO_11.out).2.1) A39.out).mono ?_); rintro e w46 ⟨v140, rfl, ho0, hb⟩; refine ⟨_, rfl, ?_⟩; replace HO_1 := zVb HO_1 hb; replace HO_2 := zVb HO_2 hb; replace HO_9 := zVb HO_9 hb; replace HO_10 := zVb HO_10 hb; replace HO_11 := zVb HO_11 hb; replace HO_12 := zVb HO_12 hb; replace HO135 := zVb HO135 hb; replace HO138 := zVb HO138 hb; have HO141 := zWV (fun k_ => ((P1_ k_ ∨ P2_ k_) ∨ w.heap.size ≤ k_)) ho0 HB (fun k_ hk_ => (.inr (Nat.le_trans (zS HB) hk_))); replace HB := zBb HB hb; (try clear hb); (try clear ho0)))
    go_ret3
    exact ⟨_, _, _, zQ, zV HO135.out, zV HO138.out, zV HO141.out, zT⟩
   rw [if_pos c12] at H
   have c12b0 : decide (0 < (x2_1.length : Int)) = true := decide_eq_true c12
   have c12b1 : decide (0 < x2_1.length) = true := decide_eq_true (by omega)
   clear c12
   obtain ⟨⟨t113, t116⟩, A13, H⟩ := zO H; try dsimp only at H
   obtain ⟨t119, A14, H⟩ := zO H
   obtain ⟨t122, A15, H⟩ := zO H
   obtain ⟨t125, A16, H⟩ := zO H
   obtain ⟨t128, A17, H⟩ := zO H
   have H' := Aside0.mk H
   clear H
   obtain ⟨Ao18, co18, eo18⟩ := Kd.V_slice HO_2.out
   subst eo18
   obtain ⟨Ao19, co19, eo19⟩ := Kd.V_slice HO_1.out
   subst eo19
   go_wp2_with (first | ((with_reducible refine gate_callee (f := 117) rfl ?_); refine zG (some 27) Tryz.func117 #[.int .i64 a0, .slice Ao19 x1_1.length co19, .slice Ao18 x2_1.length co18] ?_; (with_reducible refine (galoisref09_DivMod.calls k1 a0 _ _ x1_1 _ _ x2_1 t113 t116 _ (zC ((Kd.V_reads' HO_1.out).2.2)) ((Kd.V_reads' HO_1.out).2.1) (zC ((Kd.V_reads' HO_2.out).2.2)) ((Kd.V_reads' HO_2.out).2.1) A13.out).mono ?_); rintro e w20 ⟨v114, v117, rfl, ho0, ho1, hb⟩; refine ⟨_, rfl, ?_⟩; replace HO_1 := zVb HO_1 hb; replace HO_2 := zVb HO_2 hb; replace HO_9 := zVb HO_9 hb; replace HO_10 := zVb HO_10 hb; replace HO_11 := zVb HO_11 hb; replace HO_12 := zVb HO_12 hb; have HO115 := zWV (fun k_ => ((P1_ k_ ∨ P2_ k_) ∨ w.heap.size ≤ k_)) ho0 HB (fun k_ hk_ => (.inr (Nat.le_trans (zS HB) hk_))); have HO118 := Aside0.mk (Kd.V_lower (Kd.V_mono (ok' := fun k_ => ((P1_ k_ ∨ P2_ k_) ∨ w.heap.size ≤ k_)) ho1 (fun k_ hk_ => (.inr (Nat.le_trans (zS HB) hk_)))) (zS HB)); replace HB := zBb HB hb; (try clear hb); (try clear ho0); (try clear ho1); obtain ⟨Ao21, co21, eo21⟩ := Kd.V_slice HO115.out; subst eo21; obtain ⟨Ao22, co22, eo22⟩ := Kd.V_slice HO_10.out; subst eo22) | ((with_reducible refine gate_callee (f := 90) rfl ?_); refine zG (some 38) Tryz.func90 #[.int .i64 a0, .slice Ao21 t113.length co21, .slice Ao22 x10_1.length co22] ?_; (with_reducible refine (galoisref09_Mul.calls k1 a0 _ _ t113 _ _ x10_1 t119 _ (zC ((Kd.V_reads' HO115.out).2.2)) ((Kd.V_reads' HO115.out).2.1) (zC ((Kd.V_reads' HO_10.out).2.2)) ((Kd.V_reads' HO_10.out).2.1) A14.out).mono ?_); rintro e w23 ⟨v120, rfl, ho0, hb⟩; refine ⟨_, rfl, ?_⟩; replace HO_1 := zVb HO_1 hb; replace HO_2 := zVb HO_2 hb; replace HO_9 := zVb HO_9 hb; replace HO_10 := zVb HO_10 hb; replace HO_11 := zVb HO_11 hb; replace HO_12 := zVb HO_12 hb; replace HO115 := zVb HO115 hb; replace HO118 := zVb HO118 hb; have HO121 := zWV (fun k_ => ((P1_ k_ ∨ P2_ k_) ∨ w.heap.size ≤ k_)) ho0 HB (fun k_ hk_ => (.inr (Nat.le_trans (zS HB) hk_))); replace HB := zBb HB hb; (try clear hb); (try clear ho0); obtain ⟨Ao24, co24, eo24⟩ := Kd.V_slice HO_9.out; subst eo24; obtain ⟨Ao25, co25, eo25⟩ := Kd.V_slice HO121.out; subst eo25) | ((with_reducible refine gate_callee (f := 93) rfl ?_); refine zG (some 39) Tryz.func93 #[.int .i64 a0, .slice Ao24 x9_1.length co24, .slice Ao25 t119.length co25] ?_; (with_reducible refine (galoisref09_Sub.calls k1 a0 _ _ x9_1 _ _ t119 t122 _ (zC ((Kd.V_reads' HO_9.out).2.2)) ((Kd.V_reads' HO_9.out).2.1) (zC ((Kd.V_reads' HO121.out).2.2)) ((Kd.V_reads' HO121.out).2.1) A15.out).mono ?_); rintro e w26 ⟨v123, rfl, ho0, hb⟩; refine ⟨_, rfl, ?_⟩; replace HO_1 := zVb HO_1 hb; replace HO_2 := zVb HO_2 hb; replace HO_9 := zVb HO_9 hb; replace HO_10 := zVb HO_10 hb; replace HO_11 := zVb HO_11 hb; replace HO_12 := zVb HO_12 hb; replace HO115 := zVb HO115 hb; replace HO118 := zVb HO118 hb; replace HO121 := zVb HO121 hb; have HO124 := zWV (fun k_ => ((P1_ k_ ∨ P2_ k_) ∨ w.heap.size ≤ k_)) ho0 HB (fun k_ hk_ => (.inr (Nat.le_trans (zS HB) hk_))); replace HB := zBb HB hb; (try clear hb); (try clear ho0); obtain ⟨Ao27, co27, eo27⟩ := Kd.V_slice HO_12.out; subst eo27) | ((with_reducible refine gate_callee (f := 90) rfl ?_); refine zG (some 46) Tryz.func90 #[.int .i64 a0, .slice Ao21 t113.length co21, .slice Ao27 x12_1.length co27] ?_; (with_reducible refine (galoisref09_Mul.calls k1 a0 _ _ t113 _ _ x12_1 t125 _ (zC ((Kd.V_reads' HO115.out).2.2)) ((Kd.V_reads' HO115.out).2.1) (zC ((Kd.V_reads' HO_12.out).2.2)) ((Kd.V_reads' HO_12.out).2.1) A16.out).mono ?_); rintro e w28 ⟨v126, rfl, ho0, hb⟩; refine ⟨_, rfl, ?_⟩; replace HO_1 := zVb HO_1 hb; replace HO_2 := zVb HO_2 hb; replace HO_9 := zVb HO_9 hb; replace HO_10 := zVb HO_10 hb; replace HO_11 := zVb HO_11 hb; replace HO_12 := zVb HO_12 hb; replace HO115 := zVb HO115 hb; replace HO118 := zVb HO118 hb; replace HO121 := zVb HO121 hb; replace HO124 := zVb HO124 hb; have HO127 := zWV (fun k_ => ((P1_ k_ ∨ P2_ k_) ∨ w.heap.size ≤ k_)) ho0 HB (fun k_ hk_ => (.inr (Nat.le_trans (zS HB) hk_))); replace HB := zBb HB hb; (try clear hb); (try clear ho0); obtain ⟨Ao29, co29, eo29⟩ := Kd.V_slice HO_11.out; subst eo29; obtain ⟨Ao30, co30, eo30⟩ := Kd.V_slice HO127.out; subst eo30) | ((with_reducible refine gate_callee (f := 93) rfl ?_); refine zG (some 47) Tryz.func93 #[.int .i64 a0, .slice Ao29 x11_1.length co29, .slice Ao30 t125.length co30] ?_; (with_reducible refine (galoisref09_Sub.calls k1 a0 _ _ x11_1 _ _ t125 t128 _ (zC ((Kd.V_reads' HO_11.out).2.2)) ((Kd.V_reads' HO_11.out).2.1) (zC ((Kd.V_reads' HO127.out).2.2)) ((Kd.V_reads' HO127.out).2.1) A17.out).mono ?_); rintro e w31 ⟨v129, rfl, ho0, hb⟩; refine ⟨_, rfl, ?_⟩; replace HO_1 := zVb HO_1 hb; replace HO_2 := zVb HO_2 hb; replace HO_9 := zVb HO_9 hb; replace HO_10 := zVb HO_10 hb; replace HO_11 := zVb HO_11 hb; replace HO_12 := zVb HO_12 hb; replace HO115 := zVb HO115 hb; replace HO118 := zVb HO118 hb; replace HO121 := zVb HO121 hb; replace HO124 := zVb HO124 hb; replace HO127 := zVb HO127 hb; have HO130 := zWV (fun k_ => ((P1_ k_ ∨ P2_ k_) ∨ w.heap.size ≤ k_)) ho0 HB (fun k_ hk_ => (.inr (Nat.le_trans (zS HB) hk_))); replace HB := zBb HB hb; (try clear hb); (try clear ho0)))
   go_roundg k1
   case measure => have := HK1.out; omega
   case rel => exact ⟨(x2_1), (t116), (x10_1), (t122), (x12_1), (t128), H', ⟨by have := HK1.out; omega⟩, ⟨zV HO_2.out⟩, ⟨zV HO118.out⟩, ⟨zV HO_10.out⟩, ⟨zV HO124.out⟩, ⟨zV HO_12.out⟩, ⟨zV HO130.out⟩, ⟨zT⟩⟩
def galoisref09_Inverse.f (k : Nat) (a0 : Int) (l1 : List Int) (l2 : List Int) : Option (List Int × Bool) := (galoisref09_Mod.f k a0 l1 l2).bind fun t101 => ((galoisref09_Xgcd.f k a0 t101 l2).bind fun bt104 => (if (bt104.1.length : Int) = 1 then ((galoisref09_Mod.f k a0 bt104.2.1 l2).bind fun t113 => (some (t113, true))) else (some (([] : List Int), false))))
theorem galoisref09_Inverse.mono : ∀ a0 a1 a2 k, LeO (galoisref09_Inverse.f k a0 a1 a2) (galoisref09_Inverse.f (k + 1) a0 a1 a2) := by
 intro a0 a1 a2 k
 unfold galoisref09_Inverse.f
 with_reducible repeat' first | exact galoisref09_Mod.mono _ _ _ _ | exact galoisref09_Xgcd.mono _ _ _ _ | exact LeO.refl _ | exact LeO.none _ | refine LeO.ite ?_ ?_ | refine LeO.bind ?_ (fun _ => ?_)
theorem galoisref09_Inverse.calls (k : Nat) (a0 : Int) (A1 : Option Addr) (c1 : Nat) (l1 : List Int) (P2_ : Nat → Prop) (A2 : Option Addr) (c2 : Nat) (l2 : List Int) (r1 : List Int) (r2 : Bool) (w : World) (hr1 : Kd.C (Kd.int .i64) w A1 l1.length l1) (hc1 : l1.length ≤ c1) (hs2 : Kd.V (Kd.int .i64) 3 w w.heap.size (fun k_ => P2_ k_) (.slice A2 l2.length c2) l2) (h : galoisref09_Inverse.f k a0 l1 l2 = some (r1, r2)) :
  Calls Tryz.prog 49 #[.int .i64 a0, .slice A1 l1.length c1, .slice A2 l2.length c2] w fun e w' => ∃ v0_ : Value, e = .returned (.tuple #[v0_, .bool r2]) ∧ Kd.V (Kd.int .i64) 3 w' w.heap.size (fun k_ => (P2_ k_ ∨ w.heap.size ≤ k_)) v0_ r1 ∧ Below w.heap.size w w' := by
 have HR1 := Aside0.mk hr1
 have HC1 := Aside0.mk hc1
 clear hr1 hc1
 have HO2 := Aside0.mk (show Kd.V (Kd.int .i64) 3 w w.heap.size (fun k_ => (P2_ k_ ∨ w.heap.size ≤ k_)) (.slice A2 l2.length c2) l2 from Kd.V_mono hs2 (fun k_ hk => .inl hk))
 have HB := Aside0.mk (Below.refl w.heap.size w)
 have H := h; clear h; unfold galoisref09_Inverse.f at H
 obtain ⟨t101, A4, H⟩ := zO H
 obtain ⟨⟨t104, t107, t110⟩, A5, H⟩ := zO H; try dsimp only at H
 by_cases c6 : (t104.length : Int) = 1
 rotate_left
 ·rw [if_neg c6] at H
  obtain ⟨c6b0, c6b1⟩ := zU c6
  simp only [Option.some.injEq, Prod.mk.injEq] at H
  obtain ⟨rfl, rfl⟩ := H
  go_enter Tryz.func49, Tryz.ntmps49
  go_wp2_with (first | ((with_reducible refine gate_callee (f := 87) rfl ?_); refine zG (some 16) Tryz.func87 #[.int .i64 a0, .slice A1 l1.length c1, .slice A2 l2.length c2] ?_; (with_reducible refine (galoisref09_Mod.calls k a0 _ _ l1 _ _ l2 t101 _ (zC (HR1.out)) HC1.out (zC ((Kd.V_reads' HO2.out).2.2)) ((Kd.V_reads' HO2.out).2.1) A4.out).mono ?_); rintro e w14 ⟨v102, rfl, ho0, hb⟩; refine ⟨_, rfl, ?_⟩; replace HO2 := zVb HO2 hb; have HO103 := zWV (fun k_ => (P2_ k_ ∨ w.heap.size ≤ k_)) ho0 HB (fun k_ hk_ => (.inr (Nat.le_trans (zS HB) hk_))); replace HB := zBb HB hb; (try clear hb); (try clear ho0); obtain ⟨Ao15, co15, eo15⟩ := Kd.V_slice HO103.out; subst eo15) | ((with_reducible refine gate_callee (f := 88) rfl ?_); refine zG (some 18) Tryz.func88 #[.int .i64 a0, .slice Ao15 t101.length co15, .slice A2 l2.length c2] ?_; (with_reducible refine (galoisref09_Xgcd.calls k a0 (fun k_ => (P2_ k_ ∨ w.heap.size ≤ k_)) _ _ t101 (fun k_ => (P2_ k_ ∨ w.heap.size ≤ k_)) _ _ l2 t104 t107 t110 _ HO103.out HO2.out A5.out).mono ?_); rintro e w16 ⟨v105, v108, v111, rfl, ho0, ho1, ho2, hb⟩; refine ⟨_, rfl, ?_⟩; replace HO2 := zVb HO2 hb; replace HO103 := zVb HO103 hb; have HO106 := zWV (fun k_ => (P2_ k_ ∨ w.heap.size ≤ k_)) ho0 HB (fun k_ hk_ => Or.elim hk_ (fun hs_ => Or.elim hs_ (fun hs_ => hs_) (fun hs_ => hs_)) (fun hn_ => (.inr (Nat.le_trans (zS HB) hn_)))); have HO109 := Aside0.mk (Kd.V_lower (Kd.V_mono (ok' := fun k_ => (P2_ k_ ∨ w.heap.size ≤ k_)) ho1 (fun k_ hk_ => Or.elim hk_ (fun hs_ => Or.elim hs_ (fun hs_ => hs_) (fun hs_ => hs_)) (fun hn_ => (.inr (Nat.le_trans (zS HB) hn_))))) (zS HB)); have HO112 := Aside0.mk (Kd.V_lower (Kd.V_mono (ok' := fun k_ => (P2_ k_ ∨ w.heap.size ≤ k_)) ho2 (fun k_ hk_ => Or.elim hk_ (fun hs_ => Or.elim hs_ (fun hs_ => hs_) (fun hs_ => hs_)) (fun hn_ => (.inr (Nat.le_trans (zS HB) hn_))))) (zS HB)); replace HB := zBb HB hb; (try clear hb); (try clear ho0); (try clear ho1); (try clear ho2); obtain ⟨Ao17, co17, eo17⟩ := Kd.V_slice HO106.out; subst eo17))
  go_ret2
  exact ⟨_, zQ, zL, zT⟩
 rw [if_pos c6] at H
 obtain ⟨c6b0, c6b1⟩ := zE c6; clear c6
 obtain ⟨t113, A7, H⟩ := zO H
 simp only [Option.some.injEq, Prod.mk.injEq] at H
 obtain ⟨rfl, rfl⟩ := H
 go_enter Tryz.func49, Tryz.ntmps49
 go_wp2_with (first | ((with_reducible refine gate_callee (f := 87) rfl ?_); refine zG (some 16) Tryz.func87 #[.int .i64 a0, .slice A1 l1.length c1, .slice A2 l2.length c2] ?_; (with_reducible refine (galoisref09_Mod.calls k a0 _ _ l1 _ _ l2 t101 _ (zC (HR1.out)) HC1.out (zC ((Kd.V_reads' HO2.out).2.2)) ((Kd.V_reads' HO2.out).2.1) A4.out).mono ?_); rintro e w8 ⟨v102, rfl, ho0, hb⟩; refine ⟨_, rfl, ?_⟩; replace HO2 := zVb HO2 hb; have HO103 := zWV (fun k_ => (P2_ k_ ∨ w.heap.size ≤ k_)) ho0 HB (fun k_ hk_ => (.inr (Nat.le_trans (zS HB) hk_))); replace HB := zBb HB hb; (try clear hb); (try clear ho0); obtain ⟨Ao9, co9, eo9⟩ := Kd.V_slice HO103.out; subst eo9) | ((with_reducible refine gate_callee (f := 88) rfl ?_); refine zG (some 18) Tryz.func88 #[.int .i64 a0, .slice Ao9 t101.length co9, .slice A2 l2.length c2] ?_; (with_reducible refine (galoisref09_Xgcd.calls k a0 (fun k_ => (P2_ k_ ∨ w.heap.size ≤ k_)) _ _ t101 (fun k_ => (P2_ k_ ∨ w.heap.size ≤ k_)) _ _ l2 t104 t107 t110 _ HO103.out HO2.out A5.out).mono ?_); rintro e w10 ⟨v105, v108, v111, rfl, ho0, ho1, ho2, hb⟩; refine ⟨_, rfl, ?_⟩; replace HO2 := zVb HO2 hb; replace HO103 := zVb HO103 hb; have HO106 := zWV (fun k_ => (P2_ k_ ∨ w.heap.size ≤ k_)) ho0 HB (fun k_ hk_ => Or.elim hk_ (fun hs_ => Or.elim hs_ (fun hs_ => hs_) (fun hs_ => hs_)) (fun hn_ => (.inr (Nat.le_trans (zS HB) hn_)))); have HO109 := Aside0.mk (Kd.V_lower (Kd.V_mono (ok' := fun k_ => (P2_ k_ ∨ w.heap.size ≤ k_)) ho1 (fun k_ hk_ => Or.elim hk_ (fun hs_ => Or.elim hs_ (fun hs_ => hs_) (fun hs_ => hs_)) (fun hn_ => (.inr (Nat.le_trans (zS HB) hn_))))) (zS HB)); have HO112 := Aside0.mk (Kd.V_lower (Kd.V_mono (ok' := fun k_ => (P2_ k_ ∨ w.heap.size ≤ k_)) ho2 (fun k_ hk_ => Or.elim hk_ (fun hs_ => Or.elim hs_ (fun hs_ => hs_) (fun hs_ => hs_)) (fun hn_ => (.inr (Nat.le_trans (zS HB) hn_))))) (zS HB)); replace HB := zBb HB hb; (try clear hb); (try clear ho0); (try clear ho1); (try clear ho2); obtain ⟨Ao11, co11, eo11⟩ := Kd.V_slice HO106.out; subst eo11; obtain ⟨Ao12, co12, eo12⟩ := Kd.V_slice HO109.out; subst eo12) | ((with_reducible refine gate_callee (f := 87) rfl ?_); refine zG (some 28) Tryz.func87 #[.int .i64 a0, .slice Ao12 t107.length co12, .slice A2 l2.length c2] ?_; (with_reducible refine (galoisref09_Mod.calls k a0 _ _ t107 _ _ l2 t113 _ (zC ((Kd.V_reads' HO109.out).2.2)) ((Kd.V_reads' HO109.out).2.1) (zC ((Kd.V_reads' HO2.out).2.2)) ((Kd.V_reads' HO2.out).2.1) A7.out).mono ?_); rintro e w13 ⟨v114, rfl, ho0, hb⟩; refine ⟨_, rfl, ?_⟩; replace HO2 := zVb HO2 hb; replace HO103 := zVb HO103 hb; replace HO106 := zVb HO106 hb; replace HO109 := zVb HO109 hb; replace HO112 := zVb HO112 hb; have HO115 := zWV (fun k_ => (P2_ k_ ∨ w.heap.size ≤ k_)) ho0 HB (fun k_ hk_ => (.inr (Nat.le_trans (zS HB) hk_))); replace HB := zBb HB hb; (try clear hb); (try clear ho0)))
 go_ret2
 exact ⟨_, zQ, zV HO115.out, zT⟩
def galoisref15_Inverse.f (k : Nat) (a0_0 : Int) (l0_1 : List Int) (l1 : List Int) : Option (List Int) := (galoisref09_Inverse.f k a0_0 l1 l0_1).bind fun bt102 => (some bt102.1)
theorem galoisref15_Inverse.mono : ∀ a0 a1 a2 k, LeO (galoisref15_Inverse.f k a0 a1 a2) (galoisref15_Inverse.f (k + 1) a0 a1 a2) := by
 intro a0 a1 a2 k
 unfold galoisref15_Inverse.f
 with_reducible repeat' first | exact galoisref09_Inverse.mono _ _ _ _ | exact LeO.refl _ | exact LeO.none _ | refine LeO.ite ?_ ?_ | refine LeO.bind ?_ (fun _ => ?_)
theorem galoisref15_Inverse.calls (k : Nat) (a0_0 : Int) (P0_1_ : Nat → Prop) (A0_1 : Option Addr) (c0_1 : Nat) (l0_1 : List Int) (A1 : Option Addr) (c1 : Nat) (l1 : List Int) (r : List Int) (w : World) (hs0_1 : Kd.V (Kd.int .i64) 3 w w.heap.size (fun k_ => P0_1_ k_) (.slice A0_1 l0_1.length c0_1) l0_1) (hr1 : Kd.C (Kd.int .i64) w A1 l1.length l1) (hc1 : l1.length ≤ c1) (h : galoisref15_Inverse.f k a0_0 l0_1 l1 = some r) :
  Calls Tryz.prog 15 #[.agg #[.int .i64 a0_0, .slice A0_1 l0_1.length c0_1], .slice A1 l1.length c1] w fun e w' => ∃ v0_ : Value, e = .returned (v0_) ∧ Kd.V (Kd.int .i64) 3 w' w.heap.size (fun k_ => (P0_1_ k_ ∨ w.heap.size ≤ k_)) v0_ r ∧ Below w.heap.size w w' := by
 have hu25 := Tryz.underlying25
 have HO0_1 := Aside0.mk (show Kd.V (Kd.int .i64) 3 w w.heap.size (fun k_ => (P0_1_ k_ ∨ w.heap.size ≤ k_)) (.slice A0_1 l0_1.length c0_1) l0_1 from Kd.V_mono hs0_1 (fun k_ hk => .inl hk))
 have HR1 := Aside0.mk hr1
 have HC1 := Aside0.mk hc1
 clear hr1 hc1
 have HB := Aside0.mk (Below.refl w.heap.size w)
 have H := h; clear h; unfold galoisref15_Inverse.f at H
 obtain ⟨⟨t102, t105⟩, A3, H⟩ := zO H; try dsimp only at H
 obtain rfl := Option.some.inj H
 go_enter Tryz.func15, Tryz.ntmps15
 go_wp2_with (first | ((with_reducible refine gate_dst (N := 2) rfl ?_); refine zb 2 #[.int .i64 a0_0, .slice A0_1 l0_1.length c0_1] 25 ?_; intro gb101 hg w4 hbox hb; replace HO0_1 := Aside0.mk (Kd.V_below (Kd.V_elderB (zV HO0_1.out) gb101 (Nat.le_of_eq hg.symm)) hb); have BK101 := Aside0.mk (hbox); have GW101 := zg HB hg; have GE101 := GW101; replace HB := zBb HB hb; clear hb hbox hg; obtain ⟨hcz5_0, hcz5_1, hfz5_0, hfz5_1⟩ := zf2 BK101) | ((with_reducible refine gate_callee (f := 49) rfl ?_); refine zG (some 13) Tryz.func49 #[.int .i64 a0_0, .slice A1 l1.length c1, .slice A0_1 l0_1.length c0_1] ?_; (with_reducible refine (galoisref09_Inverse.calls k a0_0 _ _ l1 (fun k_ => ((P0_1_ k_ ∨ w.heap.size ≤ k_) ∧ k_ ≠ gb101)) _ _ l0_1 t102 t105 _ (zC (Kd.C_below HR1.out HB.out)) HC1.out HO0_1.out A3.out).mono ?_); rintro e w6 ⟨v103, rfl, ho0, hb⟩; refine ⟨_, rfl, ?_⟩; replace HO0_1 := zVb HO0_1 hb; have HO104 := zWV (fun k_ => (P0_1_ k_ ∨ w.heap.size ≤ k_) ∧ k_ ≠ gb101) ho0 HB (fun k_ hk_ => ⟨Or.elim hk_ (fun hs_ => hs_.1) (fun hn_ => (.inr (Nat.le_trans (zS HB) hn_))), Or.elim hk_ (fun hs_ => hs_.2) (fun hn_ => (Kd.freshB (zK BK101.out) k_ hn_))⟩); replace BK101 := zKb BK101 hb; replace HB := zBb HB hb; (try clear hb); (try clear ho0)))
 go_ret
 exact ⟨_, zQ, zV (Kd.V_mono HO104.out (fun _ hk => hk.1)), zT⟩
def natural_Check.j0 : Nat → ByteArray → Bool → Option (Int)
 | 0, _, _ => none
 | k + 1, x0, x10 => if x10 = true then (some 1) else (if (x0.size : Int) > 1024 then (some 4) else (some 0))
def natural_Check.f (k : Nat) (a0 : ByteArray) : Option (Int) := if (a0.size : Int) > 0 then (if 0 < (a0.size : Int) then (natural_Check.j0 k a0 ((bt a0 0) == 0)) else (none)) else (natural_Check.j0 k a0 false)
theorem natural_Check.mono_l : ∀ k, (∀ y0 y1, LeO (natural_Check.j0 k y0 y1) (natural_Check.j0 (k + 1) y0 y1))
 | 0 => fun _ _ r h => by simp [natural_Check.j0] at h
 | k + 1 => by
  have ih0 := natural_Check.mono_l k
  intro y0 y1
  unfold natural_Check.j0
  with_reducible repeat' first | exact ih0 _ _ | exact LeO.refl _ | exact LeO.none _ | refine LeO.ite ?_ ?_ | refine LeO.bind ?_ (fun _ => ?_)
theorem natural_Check.mono : ∀ a0 k, LeO (natural_Check.f k a0) (natural_Check.f (k + 1) a0) := by
 intro a0 k
 have ih0 := natural_Check.mono_l k
 unfold natural_Check.f
 with_reducible repeat' first | exact ih0 _ _ | exact LeO.refl _ | exact LeO.none _ | refine LeO.ite ?_ ?_ | refine LeO.bind ?_ (fun _ => ?_)
theorem natural_Check.calls (k : Nat) (a0 : ByteArray) (r : Int) (w : World) (h : natural_Check.f k a0 = some r) :
  Calls Tryz.prog 44 #[.string a0] w fun e w' => e = .returned (.int .i64 r) ∧ Drawn0 w w' := by
 have H := h; clear h; unfold natural_Check.f at H
 have HC2 := Aside0.mk H
 clear H
 go_enter Tryz.func44, Tryz.ntmps44
 go_upto_region 1 with (fail)
 go_cut [10] (fun v10 wc => ∃ (kq : Nat) (x10_1 : Bool), v10 = .bool x10_1 ∧ Aside0 (natural_Check.j0 kq a0 x10_1 = some r) ∧ Aside0 (kq ≤ k) ∧ Drawn0 w wc)
 case first =>
  have H := HC2.out
  clear HC2
  by_cases c3 : (a0.size : Int) > 0
  rotate_left
  ·rw [if_neg c3] at H
   have c3b0 : decide (0 < (a0.size : Int)) = false := decide_eq_false c3
   have c3b1 : decide (0 < a0.size) = false := decide_eq_false (by omega)
   clear c3
   (first | rw [c3b0] | (simp only [i64_w, i32_w]; rw [c3b0]) | skip)
   have H' := Aside0.mk H
   clear H
   go_wp2
   go_meet
   case rel => exact ⟨_, (false), zX, H', ⟨by first | omega | exact Nat.le_refl _⟩, by repeat (first | exact Drawn0.refl _ | apply Drawn0.step)⟩
  rw [if_pos c3] at H
  have c3b0 : decide (0 < (a0.size : Int)) = true := decide_eq_true c3
  have c3b1 : decide (0 < a0.size) = true := decide_eq_true (by omega)
  clear c3
  (first | rw [c3b0] | (simp only [i64_w, i32_w]; rw [c3b0]) | skip)
  by_cases c4 : 0 < (a0.size : Int)
  rotate_left
  ·rw [if_neg c4] at H
   exact absurd H (by simp)
  rw [if_pos c4] at H
  have c4b0 : decide (0 < (a0.size : Int)) = true := decide_eq_true c4
  have c4b1 : decide (0 < a0.size) = true := decide_eq_true (by omega)
  clear c4
  have H' := Aside0.mk H
  clear H
  have p5 : 0 ≤ (0 : Int) := (by omega)
  have q5 : 0 < a0.size := (by have : (0 : Int) < (a0.size : Int) := zD; omega)
  have hx5 : ∀ h : 0 < a0.size, ((a0[0]'h).toNat : Int) = bt a0 0 := bt_at a0 0
  clear p5
  have qi5 : (0 < (a0.size : Int)) = True := eq_true zD
  replace q5 := eq_true q5
  go_wp2
  go_meet
  case rel => exact ⟨_, (((bt a0 0) == 0)), zX, H', ⟨by first | omega | exact Nat.le_refl _⟩, by repeat (first | exact Drawn0.refl _ | apply Drawn0.step)⟩
 case rest =>
  clear HC2
  try clear p2; try clear c3; try clear c3b0; try clear c3b1; try clear c4; try clear c4b0; try clear c4b1; try clear p5; try clear q5; try clear hx5; try clear qi5; try clear p5; try clear q5
  obtain ⟨kq, x10_1, rfl, HA, HJ1, ⟨mc1, rfl⟩⟩ := hcut
  cases kq with
  | zero => exact absurd HA.out (by simp [natural_Check.j0])
  | succ kj1 =>
   have H := HA.out
   clear HA
   simp only [natural_Check.j0] at H
   by_cases c6 : x10_1 = true
   ·subst c6
    rw [if_pos rfl] at H
    obtain rfl := Option.some.inj H
    go_wp2
    go_ret
    exact ⟨by first | rfl | (simp; done) | (simp [*]; done), by repeat (first | exact Drawn0.refl _ | apply Drawn0.step)⟩
   replace c6 := Bool.eq_false_iff.mpr c6
   subst c6
   rw [if_neg Bool.false_ne_true] at H
   by_cases c7 : (a0.size : Int) > 1024
   ·rw [if_pos c7] at H
    have c7b0 : decide (1024 < (a0.size : Int)) = true := decide_eq_true c7
    have c7b1 : decide (1024 < a0.size) = true := decide_eq_true (by omega)
    clear c7
    obtain rfl := Option.some.inj H
    go_wp2
    go_ret
    exact ⟨by first | rfl | (simp; done) | (simp [*]; done), by repeat (first | exact Drawn0.refl _ | apply Drawn0.step)⟩
   rw [if_neg c7] at H
   have c7b0 : decide (1024 < (a0.size : Int)) = false := decide_eq_false c7
   have c7b1 : decide (1024 < a0.size) = false := decide_eq_false (by omega)
   clear c7
   obtain rfl := Option.some.inj H
   go_wp2
   go_ret
   exact ⟨by first | rfl | (simp; done) | (simp [*]; done), by repeat (first | exact Drawn0.refl _ | apply Drawn0.step)⟩
def galoislaw15_right.f (k : Nat) (l0 : List Int) (a1 : Int) (a2 : Int) (l3 : List Int) : Option (Bool) := if a2 = 0 then ((galoisref09_Same.f k l0 l3).bind fun t101 => (if t101 = true then (some (a1 == 0)) else (some false))) else (if (l0.length : Int) = 0 then (some (a1 == a2)) else (some false))
theorem galoislaw15_right.mono : ∀ a0 a1 a2 a3 k, LeO (galoislaw15_right.f k a0 a1 a2 a3) (galoislaw15_right.f (k + 1) a0 a1 a2 a3) := by
 intro a0 a1 a2 a3 k
 unfold galoislaw15_right.f
 with_reducible repeat' first | exact galoisref09_Same.mono _ _ _ | exact LeO.refl _ | exact LeO.none _ | refine LeO.ite ?_ ?_ | refine LeO.bind ?_ (fun _ => ?_)
theorem galoislaw15_right.calls (k : Nat) (A0 : Option Addr) (c0 : Nat) (l0 : List Int) (a1 : Int) (a2 : Int) (A3 : Option Addr) (c3 : Nat) (l3 : List Int) (r : Bool) (w : World) (hr0 : Kd.C (Kd.int .i64) w A0 l0.length l0) (hc0 : l0.length ≤ c0) (hr3 : Kd.C (Kd.int .i64) w A3 l3.length l3) (hc3 : l3.length ≤ c3) (h : galoislaw15_right.f k l0 a1 a2 l3 = some r) :
  Calls Tryz.prog 12 #[.slice A0 l0.length c0, .int .i64 a1, .int .i64 a2, .slice A3 l3.length c3] w fun e w' => e = .returned (.bool r) ∧ Drawn0 w w' := by
 have HR0 := Aside0.mk hr0
 have HC0 := Aside0.mk hc0
 clear hr0 hc0
 have HR3 := Aside0.mk hr3
 have HC3 := Aside0.mk hc3
 clear hr3 hc3
 have H := h; clear h; unfold galoislaw15_right.f at H
 by_cases c5 : a2 = 0
 rotate_left
 ·rw [if_neg c5] at H
  obtain ⟨c5b0, c5b1⟩ := zU c5
  by_cases c8 : (l0.length : Int) = 0
  ·rw [if_pos c8] at H
   obtain ⟨c8b0, c8b1⟩ := zE c8; clear c8
   obtain rfl := Option.some.inj H
   go_enter Tryz.func12, Tryz.ntmps12
   go_wp2
   go_ret
   exact ⟨by first | rfl | (simp; done) | (simp [*]; done), by repeat (first | exact Drawn0.refl _ | apply Drawn0.step)⟩
  rw [if_neg c8] at H
  obtain ⟨c8b0, c8b1⟩ := zU c8
  have c8b2 : ¬ (l0 = []) := fun h_ => c8 (by rw [h_]; rfl)
  obtain rfl := Option.some.inj H
  go_enter Tryz.func12, Tryz.ntmps12
  go_wp2
  go_ret
  exact ⟨by first | rfl | (simp; done) | (simp [*]; done), by repeat (first | exact Drawn0.refl _ | apply Drawn0.step)⟩
 rw [if_pos c5] at H
 obtain ⟨c5b0, c5b1⟩ := zE c5; clear c5
 obtain ⟨t101, A6, H⟩ := zO H
 by_cases c7 : t101 = true
 ·subst c7
  rw [if_pos rfl] at H
  obtain rfl := Option.some.inj H
  go_enter Tryz.func12, Tryz.ntmps12
  go_wp2_with (first | ((with_reducible refine gate_callee (f := 36) rfl ?_); refine zG (some 21) Tryz.func36 #[.slice A0 l0.length c0, .slice A3 l3.length c3] ?_; (with_reducible refine (galoisref09_Same.calls k _ _ l0 _ _ l3 true _ (zC (HR0.out)) HC0.out (zC (HR3.out)) HC3.out A6.out).mono ?_); rintro e w' ⟨rfl, ⟨nd, rfl⟩⟩; refine ⟨_, rfl, ?_⟩))
  go_ret
  exact ⟨by first | rfl | (simp; done) | (simp [*]; done), by repeat (first | exact Drawn0.refl _ | apply Drawn0.step)⟩
 replace c7 := Bool.eq_false_iff.mpr c7
 subst c7
 rw [if_neg Bool.false_ne_true] at H
 obtain rfl := Option.some.inj H
 go_enter Tryz.func12, Tryz.ntmps12
 go_wp2_with (first | ((with_reducible refine gate_callee (f := 36) rfl ?_); refine zG (some 21) Tryz.func36 #[.slice A0 l0.length c0, .slice A3 l3.length c3] ?_; (with_reducible refine (galoisref09_Same.calls k _ _ l0 _ _ l3 false _ (zC (HR0.out)) HC0.out (zC (HR3.out)) HC3.out A6.out).mono ?_); rintro e w' ⟨rfl, ⟨nd, rfl⟩⟩; refine ⟨_, rfl, ?_⟩))
 go_ret
 exact ⟨by first | rfl | (simp; done) | (simp [*]; done), by repeat (first | exact Drawn0.refl _ | apply Drawn0.step)⟩
def gf_Field_PowNat.f (k : Nat) (a0_0 : Int) (l0_1 : List Int) (l1 : List Int) (a2 : ByteArray) : Option (List Int) := (fp_PowMod.f k a0_0 l1 a2 l0_1).bind fun t102 => (some t102)
theorem gf_Field_PowNat.mono : ∀ a0 a1 a2 a3 k, LeO (gf_Field_PowNat.f k a0 a1 a2 a3) (gf_Field_PowNat.f (k + 1) a0 a1 a2 a3) := by
 intro a0 a1 a2 a3 k
 unfold gf_Field_PowNat.f
 with_reducible repeat' first | exact fp_PowMod.mono _ _ _ _ _ | exact LeO.refl _ | exact LeO.none _ | refine LeO.ite ?_ ?_ | refine LeO.bind ?_ (fun _ => ?_)
theorem gf_Field_PowNat.calls (k : Nat) (a0_0 : Int) (A0_1 : Option Addr) (c0_1 : Nat) (l0_1 : List Int) (A1 : Option Addr) (c1 : Nat) (l1 : List Int) (a2 : ByteArray) (r : List Int) (w : World) (hr0_1 : Kd.C (Kd.int .i64) w A0_1 l0_1.length l0_1) (hc0_1 : l0_1.length ≤ c0_1) (hr1 : Kd.C (Kd.int .i64) w A1 l1.length l1) (hc1 : l1.length ≤ c1) (h : gf_Field_PowNat.f k a0_0 l0_1 l1 a2 = some r) :
  Calls Tryz.prog 45 #[.agg #[.int .i64 a0_0, .slice A0_1 l0_1.length c0_1], .slice A1 l1.length c1, .string a2] w fun e w' => ∃ v0_ : Value, e = .returned (v0_) ∧ Kd.V (Kd.int .i64) 3 w' w.heap.size (fun k_ => (w.heap.size ≤ k_)) v0_ r ∧ Below w.heap.size w w' := by
 have hu66 := Tryz.underlying66
 have HR0_1 := Aside0.mk hr0_1
 have HC0_1 := Aside0.mk hc0_1
 clear hr0_1 hc0_1
 have HR1 := Aside0.mk hr1
 have HC1 := Aside0.mk hc1
 clear hr1 hc1
 have HB := Aside0.mk (Below.refl w.heap.size w)
 have H := h; clear h; unfold gf_Field_PowNat.f at H
 obtain ⟨t102, A4, H⟩ := zO H
 obtain rfl := Option.some.inj H
 go_enter Tryz.func45, Tryz.ntmps45
 go_wp2_with (first | ((with_reducible refine gate_dst (N := 3) rfl ?_); refine zb 3 #[.int .i64 a0_0, .slice A0_1 l0_1.length c0_1] 66 ?_; intro gb101 hg w5 hbox hb; have BK101 := Aside0.mk (hbox); have GW101 := zg HB hg; have GE101 := GW101; replace HB := zBb HB hb; clear hb hbox hg; obtain ⟨hcz6_0, hcz6_1, hfz6_0, hfz6_1⟩ := zf2 BK101) | ((with_reducible refine gate_callee (f := 86) rfl ?_); refine zG (some 15) Tryz.func86 #[.int .i64 a0_0, .slice A1 l1.length c1, .string a2, .slice A0_1 l0_1.length c0_1] ?_; (with_reducible refine (fp_PowMod.calls k a0_0 _ _ l1 a2 _ _ l0_1 t102 _ (zC (Kd.C_below HR1.out HB.out)) HC1.out (zC (Kd.C_below HR0_1.out HB.out)) HC0_1.out A4.out).mono ?_); rintro e w7 ⟨v103, rfl, ho0, hb⟩; refine ⟨_, rfl, ?_⟩; have HO104 := zWV (fun k_ => (w.heap.size ≤ k_) ∧ k_ ≠ gb101) ho0 HB (fun k_ hk_ => ⟨(Nat.le_trans (zS HB) hk_), (Kd.freshB (zK BK101.out) k_ hk_)⟩); replace BK101 := zKb BK101 hb; replace HB := zBb HB hb; (try clear hb); (try clear ho0)))
 go_ret
 exact ⟨_, zQ, zV (Kd.V_mono HO104.out (fun _ hk => hk.1)), zT⟩
def finitefield_Pow.f (k : Nat) (a0_0 : Int) (l0_1 : List Int) (l1 : List Int) (a2 : ByteArray) : Option (List Int × Int) := (finitefield_check.f k a0_0 l0_1 (([l1] : List (List Int)))).bind fun t105 => (if t105 = 0 then ((natural_Check.f k a2).bind fun t106 => (if t106 = 0 then ((gf_Field_PowNat.f k a0_0 l0_1 l1 a2).bind fun t107 => (some (t107, 0))) else (some (([] : List Int), t106)))) else (some (([] : List Int), t105)))
theorem finitefield_Pow.mono : ∀ a0 a1 a2 a3 k, LeO (finitefield_Pow.f k a0 a1 a2 a3) (finitefield_Pow.f (k + 1) a0 a1 a2 a3) := by
 intro a0 a1 a2 a3 k
 unfold finitefield_Pow.f
 with_reducible repeat' first | exact finitefield_check.mono _ _ _ _ | exact gf_Field_PowNat.mono _ _ _ _ _ | exact natural_Check.mono _ _ | exact LeO.refl _ | exact LeO.none _ | refine LeO.ite ?_ ?_ | refine LeO.bind ?_ (fun _ => ?_)
theorem finitefield_Pow.calls (k : Nat) (a0_0 : Int) (A0_1 : Option Addr) (c0_1 : Nat) (l0_1 : List Int) (P1_ : Nat → Prop) (A1 : Option Addr) (c1 : Nat) (l1 : List Int) (a2 : ByteArray) (r1 : List Int) (r2 : Int) (w : World) (hr0_1 : Kd.C (Kd.int .i64) w A0_1 l0_1.length l0_1) (hc0_1 : l0_1.length ≤ c0_1) (hs1 : Kd.V (Kd.int .i64) 3 w w.heap.size (fun k_ => P1_ k_) (.slice A1 l1.length c1) l1) (h : finitefield_Pow.f k a0_0 l0_1 l1 a2 = some (r1, r2)) :
  Calls Tryz.prog 10 #[.agg #[.int .i64 a0_0, .slice A0_1 l0_1.length c0_1], .slice A1 l1.length c1, .string a2] w fun e w' => ∃ v0_ : Value, e = .returned (.tuple #[v0_, .int .i64 r2]) ∧ Kd.V (Kd.int .i64) 3 w' w.heap.size (fun k_ => (P1_ k_ ∨ w.heap.size ≤ k_)) v0_ r1 ∧ Below w.heap.size w w' := by
 have hu25 := Tryz.underlying25
 have hu66 := Tryz.underlying66
 have HR0_1 := Aside0.mk hr0_1
 have HC0_1 := Aside0.mk hc0_1
 clear hr0_1 hc0_1
 have HO1 := Aside0.mk (show Kd.V (Kd.int .i64) 3 w w.heap.size (fun k_ => (P1_ k_ ∨ w.heap.size ≤ k_)) (.slice A1 l1.length c1) l1 from Kd.V_mono hs1 (fun k_ hk => .inl hk))
 have HB := Aside0.mk (Below.refl w.heap.size w)
 have H := h; clear h; unfold finitefield_Pow.f at H
 obtain ⟨y102, Ny102⟩ := zA ((([l1] : List (List Int))) : List (List Int)); rw [← Ny102.out] at H
 obtain ⟨t105, A4, H⟩ := zO H
 by_cases c5 : t105 = 0
 rotate_left
 ·rw [if_neg c5] at H
  obtain ⟨c5b0, c5b1⟩ := zU c5
  simp only [Option.some.injEq, Prod.mk.injEq] at H
  obtain ⟨rfl, rfl⟩ := H
  go_enter Tryz.func10, Tryz.ntmps10
  go_wp2_with (first | ((with_reducible refine gate_dst (N := 3) rfl ?_); refine zb 3 #[.int .i64 a0_0, .slice A0_1 l0_1.length c0_1] 25 ?_; intro gb101 hg w23 hbox hb; replace HO1 := Aside0.mk (Kd.V_below (Kd.V_elderB (zV HO1.out) gb101 (Nat.le_of_eq hg.symm)) hb); have BK101 := Aside0.mk (hbox); have GW101 := zg HB hg; have GE101 := GW101; replace HB := zBb HB hb; clear hb hbox hg; obtain ⟨hcz24_0, hcz24_1, hfz24_0, hfz24_1⟩ := zf2 BK101) | ((with_reducible refine gate_dst (N := 12) rfl ?_); refine Kd.N_lit (Kd.slice 3 (Kd.int .i64)) _ 23 ?hg (N' := 12) ?hd (xs := ([l1] : List (List Int))) (inner := [.slice A1 l1.length c1]) (ok := (fun k_ => (P1_ k_ ∨ w.heap.size ≤ k_) ∧ k_ ≠ gb101)) (okp := (fun k_ => (P1_ k_ ∨ w.heap.size ≤ k_) ∧ k_ ≠ gb101)) ?hr ?hp (fun _ hk => hk) ((show ∀ k_, w23.heap.size ≤ k_ → (fun k_ => (P1_ k_ ∨ w.heap.size ≤ k_) ∧ k_ ≠ gb101) k_ from fun k_ hk => ⟨(.inr (Nat.le_trans (zS HB) hk)), Kd.freshB (zK BK101.out) k_ hk⟩) _ (Nat.le_refl _)) (Below.refl _ _) (Nat.le_refl _) (by simp) ?_; (case hd => rfl); (case hg => rfl); (case hr => go_simp <;> rfl); (case hp => exact (Reps.one (show Kd.FK (Kd.slice 3 (Kd.int .i64)) _ _ l1 [.slice A1 l1.length c1] from (Kd.FK_slice_mk (Kd.V_reads' (Kd.V_mono (ok' := (fun k_ => (P1_ k_ ∨ w.heap.size ≤ k_) ∧ k_ ≠ gb101)) (HO1.out) (fun k_ hk => ⟨hk.1, hk.2⟩))).2.1 (Kd.V_F (Kd.V_mono (ok' := (fun k_ => (P1_ k_ ∨ w.heap.size ≤ k_) ∧ k_ ≠ gb101)) (HO1.out) (fun k_ hk => ⟨hk.1, hk.2⟩))))) (Reps.none _ _))); intro v103 w25 ho26 hb hg_ hnew_; clear hg_ hnew_; (first | rw [← Ny102.out] at ho26 | (simp only [Int.reduceToNat] at ho26; rw [← Ny102.out] at ho26)); replace HO1 := Aside0.mk (Kd.V_elder' (zV HO1.out) (Kd.N_base ho26) hb); have HO104 := Aside0.mk (Kd.N_lower ho26 (zS HB)); replace BK101 := zKb BK101 hb; replace HB := zBb HB hb; clear hb ho26; obtain ⟨Ao27, co27, eo27⟩ := Kd.N_slice HO104.out; subst eo27) | ((with_reducible refine gate_callee (f := 41) rfl ?_); refine zG (some 13) Tryz.func41 #[.agg #[.int .i64 a0_0, .slice A0_1 l0_1.length c0_1], .slice Ao27 y102.length co27] ?_; (with_reducible refine (finitefield_check.calls k a0_0 _ _ l0_1 _ _ y102 t105 _ (zC (Kd.C_below HR0_1.out HB.out)) HC0_1.out (zC ((Kd.N_reads' HO104.out).2.2)) ((Kd.N_reads' HO104.out).2.1) A4.out).mono ?_); rintro e w28 ⟨rfl, hb⟩; refine ⟨_, rfl, ?_⟩; replace HO1 := zVb HO1 hb; replace HO104 := zNb HO104 hb; replace BK101 := zKb BK101 hb; replace HB := zBb HB hb; (try clear hb)))
  go_ret2
  exact ⟨_, zQ, zL, zT⟩
 rw [if_pos c5] at H
 obtain ⟨c5b0, c5b1⟩ := zE c5; clear c5
 obtain ⟨t106, A6, H⟩ := zO H
 by_cases c7 : t106 = 0
 rotate_left
 ·rw [if_neg c7] at H
  obtain ⟨c7b0, c7b1⟩ := zU c7
  simp only [Option.some.injEq, Prod.mk.injEq] at H
  obtain ⟨rfl, rfl⟩ := H
  go_enter Tryz.func10, Tryz.ntmps10
  go_wp2_with (first | ((with_reducible refine gate_dst (N := 3) rfl ?_); refine zb 3 #[.int .i64 a0_0, .slice A0_1 l0_1.length c0_1] 25 ?_; intro gb101 hg w17 hbox hb; replace HO1 := Aside0.mk (Kd.V_below (Kd.V_elderB (zV HO1.out) gb101 (Nat.le_of_eq hg.symm)) hb); have BK101 := Aside0.mk (hbox); have GW101 := zg HB hg; have GE101 := GW101; replace HB := zBb HB hb; clear hb hbox hg; obtain ⟨hcz18_0, hcz18_1, hfz18_0, hfz18_1⟩ := zf2 BK101) | ((with_reducible refine gate_dst (N := 12) rfl ?_); refine Kd.N_lit (Kd.slice 3 (Kd.int .i64)) _ 23 ?hg (N' := 12) ?hd (xs := ([l1] : List (List Int))) (inner := [.slice A1 l1.length c1]) (ok := (fun k_ => (P1_ k_ ∨ w.heap.size ≤ k_) ∧ k_ ≠ gb101)) (okp := (fun k_ => (P1_ k_ ∨ w.heap.size ≤ k_) ∧ k_ ≠ gb101)) ?hr ?hp (fun _ hk => hk) ((show ∀ k_, w17.heap.size ≤ k_ → (fun k_ => (P1_ k_ ∨ w.heap.size ≤ k_) ∧ k_ ≠ gb101) k_ from fun k_ hk => ⟨(.inr (Nat.le_trans (zS HB) hk)), Kd.freshB (zK BK101.out) k_ hk⟩) _ (Nat.le_refl _)) (Below.refl _ _) (Nat.le_refl _) (by simp) ?_; (case hd => rfl); (case hg => rfl); (case hr => go_simp <;> rfl); (case hp => exact (Reps.one (show Kd.FK (Kd.slice 3 (Kd.int .i64)) _ _ l1 [.slice A1 l1.length c1] from (Kd.FK_slice_mk (Kd.V_reads' (Kd.V_mono (ok' := (fun k_ => (P1_ k_ ∨ w.heap.size ≤ k_) ∧ k_ ≠ gb101)) (HO1.out) (fun k_ hk => ⟨hk.1, hk.2⟩))).2.1 (Kd.V_F (Kd.V_mono (ok' := (fun k_ => (P1_ k_ ∨ w.heap.size ≤ k_) ∧ k_ ≠ gb101)) (HO1.out) (fun k_ hk => ⟨hk.1, hk.2⟩))))) (Reps.none _ _))); intro v103 w19 ho20 hb hg_ hnew_; clear hg_ hnew_; (first | rw [← Ny102.out] at ho20 | (simp only [Int.reduceToNat] at ho20; rw [← Ny102.out] at ho20)); replace HO1 := Aside0.mk (Kd.V_elder' (zV HO1.out) (Kd.N_base ho20) hb); have HO104 := Aside0.mk (Kd.N_lower ho20 (zS HB)); replace BK101 := zKb BK101 hb; replace HB := zBb HB hb; clear hb ho20; obtain ⟨Ao21, co21, eo21⟩ := Kd.N_slice HO104.out; subst eo21) | ((with_reducible refine gate_callee (f := 41) rfl ?_); refine zG (some 13) Tryz.func41 #[.agg #[.int .i64 a0_0, .slice A0_1 l0_1.length c0_1], .slice Ao21 y102.length co21] ?_; (with_reducible refine (finitefield_check.calls k a0_0 _ _ l0_1 _ _ y102 t105 _ (zC (Kd.C_below HR0_1.out HB.out)) HC0_1.out (zC ((Kd.N_reads' HO104.out).2.2)) ((Kd.N_reads' HO104.out).2.1) A4.out).mono ?_); rintro e w22 ⟨rfl, hb⟩; refine ⟨_, rfl, ?_⟩; replace HO1 := zVb HO1 hb; replace HO104 := zNb HO104 hb; replace BK101 := zKb BK101 hb; replace HB := zBb HB hb; (try clear hb)) | ((with_reducible refine gate_callee (f := 44) rfl ?_); refine zG (some 18) Tryz.func44 #[.string a2] ?_; (with_reducible refine (natural_Check.calls k a2 t106 _ A6.out).mono ?_); rintro e w' ⟨rfl, ⟨nd, rfl⟩⟩; refine ⟨_, rfl, ?_⟩))
  go_ret2
  exact ⟨_, zQ, zL, zT⟩
 rw [if_pos c7] at H
 obtain ⟨c7b0, c7b1⟩ := zE c7; clear c7
 obtain ⟨t107, A8, H⟩ := zO H
 simp only [Option.some.injEq, Prod.mk.injEq] at H
 obtain ⟨rfl, rfl⟩ := H
 go_enter Tryz.func10, Tryz.ntmps10
 go_wp2_with (first | ((with_reducible refine gate_dst (N := 3) rfl ?_); refine zb 3 #[.int .i64 a0_0, .slice A0_1 l0_1.length c0_1] 25 ?_; intro gb101 hg w9 hbox hb; replace HO1 := Aside0.mk (Kd.V_below (Kd.V_elderB (zV HO1.out) gb101 (Nat.le_of_eq hg.symm)) hb); have BK101 := Aside0.mk (hbox); have GW101 := zg HB hg; have GE101 := GW101; replace HB := zBb HB hb; clear hb hbox hg; obtain ⟨hcz10_0, hcz10_1, hfz10_0, hfz10_1⟩ := zf2 BK101) | ((with_reducible refine gate_dst (N := 12) rfl ?_); refine Kd.N_lit (Kd.slice 3 (Kd.int .i64)) _ 23 ?hg (N' := 12) ?hd (xs := ([l1] : List (List Int))) (inner := [.slice A1 l1.length c1]) (ok := (fun k_ => (P1_ k_ ∨ w.heap.size ≤ k_) ∧ k_ ≠ gb101)) (okp := (fun k_ => (P1_ k_ ∨ w.heap.size ≤ k_) ∧ k_ ≠ gb101)) ?hr ?hp (fun _ hk => hk) ((show ∀ k_, w9.heap.size ≤ k_ → (fun k_ => (P1_ k_ ∨ w.heap.size ≤ k_) ∧ k_ ≠ gb101) k_ from fun k_ hk => ⟨(.inr (Nat.le_trans (zS HB) hk)), Kd.freshB (zK BK101.out) k_ hk⟩) _ (Nat.le_refl _)) (Below.refl _ _) (Nat.le_refl _) (by simp) ?_; (case hd => rfl); (case hg => rfl); (case hr => go_simp <;> rfl); (case hp => exact (Reps.one (show Kd.FK (Kd.slice 3 (Kd.int .i64)) _ _ l1 [.slice A1 l1.length c1] from (Kd.FK_slice_mk (Kd.V_reads' (Kd.V_mono (ok' := (fun k_ => (P1_ k_ ∨ w.heap.size ≤ k_) ∧ k_ ≠ gb101)) (HO1.out) (fun k_ hk => ⟨hk.1, hk.2⟩))).2.1 (Kd.V_F (Kd.V_mono (ok' := (fun k_ => (P1_ k_ ∨ w.heap.size ≤ k_) ∧ k_ ≠ gb101)) (HO1.out) (fun k_ hk => ⟨hk.1, hk.2⟩))))) (Reps.none _ _))); intro v103 w11 ho12 hb hg_ hnew_; clear hg_ hnew_; (first | rw [← Ny102.out] at ho12 | (simp only [Int.reduceToNat] at ho12; rw [← Ny102.out] at ho12)); replace HO1 := Aside0.mk (Kd.V_elder' (zV HO1.out) (Kd.N_base ho12) hb); have HO104 := Aside0.mk (Kd.N_lower ho12 (zS HB)); replace BK101 := zKb BK101 hb; replace HB := zBb HB hb; clear hb ho12; obtain ⟨Ao13, co13, eo13⟩ := Kd.N_slice HO104.out; subst eo13) | ((with_reducible refine gate_callee (f := 41) rfl ?_); refine zG (some 13) Tryz.func41 #[.agg #[.int .i64 a0_0, .slice A0_1 l0_1.length c0_1], .slice Ao13 y102.length co13] ?_; (with_reducible refine (finitefield_check.calls k a0_0 _ _ l0_1 _ _ y102 t105 _ (zC (Kd.C_below HR0_1.out HB.out)) HC0_1.out (zC ((Kd.N_reads' HO104.out).2.2)) ((Kd.N_reads' HO104.out).2.1) A4.out).mono ?_); rintro e w14 ⟨rfl, hb⟩; refine ⟨_, rfl, ?_⟩; replace HO1 := zVb HO1 hb; replace HO104 := zNb HO104 hb; replace BK101 := zKb BK101 hb; replace HB := zBb HB hb; (try clear hb)) | ((with_reducible refine gate_callee (f := 44) rfl ?_); refine zG (some 18) Tryz.func44 #[.string a2] ?_; (with_reducible refine (natural_Check.calls k a2 t106 _ A6.out).mono ?_); rintro e w' ⟨rfl, ⟨nd, rfl⟩⟩; refine ⟨_, rfl, ?_⟩; obtain ⟨hcz15_0, hcz15_1, hfz15_0, hfz15_1⟩ := zf2 BK101) | ((with_reducible refine gate_callee (f := 45) rfl ?_); refine zG (some 26) Tryz.func45 #[.agg #[.int .i64 a0_0, .slice A0_1 l0_1.length c0_1], .slice A1 l1.length c1, .string a2] ?_; (with_reducible refine (gf_Field_PowNat.calls k a0_0 _ _ l0_1 _ _ l1 a2 t107 _ ?side1 ?side2 ?side3 ?side4 A8.out).mono ?_); (case side1 => exact zC ((Kd.C_below HR0_1.out (zT)))); (case side2 => exact HC0_1.out); (case side3 => exact zC ((Kd.V_reads' HO1.out).2.2)); (case side4 => exact (Kd.V_reads' HO1.out).2.1); rintro e w16 ⟨v108, rfl, ho0, hb⟩; refine ⟨_, rfl, ?_⟩; replace HO1 := zVb HO1 hb; have HO109 := zWV (fun k_ => (P1_ k_ ∨ w.heap.size ≤ k_) ∧ some k_ ≠ (.slice Ao13 y102.length co13 : Value).ownBlock ∧ k_ ≠ gb101) ho0 HB (fun k_ hk_ => ⟨(.inr (Nat.le_trans (zS HB) hk_)), (Kd.fresh' (Kd.N_lt (zN HO104.out)) k_ hk_), (Kd.freshB (zK BK101.out) k_ hk_)⟩); replace HO104 := zNb HO104 hb; replace BK101 := zKb BK101 hb; replace HB := zBb HB hb; (try clear hb); (try clear ho0)))
 go_ret2
 exact ⟨_, zQ, zV (Kd.V_mono HO109.out (fun _ hk => hk.1)), zT⟩
def galoisref15_Pow.f (k : Nat) (a0_0 : Int) (l0_1 : List Int) (l1 : List Int) (a2 : ByteArray) : Option (List Int) := (galoisref09_PowMod.f k a0_0 l1 a2 l0_1).bind fun t102 => (some t102)
theorem galoisref15_Pow.mono : ∀ a0 a1 a2 a3 k, LeO (galoisref15_Pow.f k a0 a1 a2 a3) (galoisref15_Pow.f (k + 1) a0 a1 a2 a3) := by
 intro a0 a1 a2 a3 k
 unfold galoisref15_Pow.f
 with_reducible repeat' first | exact galoisref09_PowMod.mono _ _ _ _ _ | exact LeO.refl _ | exact LeO.none _ | refine LeO.ite ?_ ?_ | refine LeO.bind ?_ (fun _ => ?_)
theorem galoisref15_Pow.calls (k : Nat) (a0_0 : Int) (A0_1 : Option Addr) (c0_1 : Nat) (l0_1 : List Int) (A1 : Option Addr) (c1 : Nat) (l1 : List Int) (a2 : ByteArray) (r : List Int) (w : World) (hr0_1 : Kd.C (Kd.int .i64) w A0_1 l0_1.length l0_1) (hc0_1 : l0_1.length ≤ c0_1) (hr1 : Kd.C (Kd.int .i64) w A1 l1.length l1) (hc1 : l1.length ≤ c1) (h : galoisref15_Pow.f k a0_0 l0_1 l1 a2 = some r) :
  Calls Tryz.prog 14 #[.agg #[.int .i64 a0_0, .slice A0_1 l0_1.length c0_1], .slice A1 l1.length c1, .string a2] w fun e w' => ∃ v0_ : Value, e = .returned (v0_) ∧ Kd.V (Kd.int .i64) 3 w' w.heap.size (fun k_ => (w.heap.size ≤ k_)) v0_ r ∧ Below w.heap.size w w' := by
 have hu25 := Tryz.underlying25
 have HR0_1 := Aside0.mk hr0_1
 have HC0_1 := Aside0.mk hc0_1
 clear hr0_1 hc0_1
 have HR1 := Aside0.mk hr1
 have HC1 := Aside0.mk hc1
 clear hr1 hc1
 have HB := Aside0.mk (Below.refl w.heap.size w)
 have H := h; clear h; unfold galoisref15_Pow.f at H
 obtain ⟨t102, A4, H⟩ := zO H
 obtain rfl := Option.some.inj H
 go_enter Tryz.func14, Tryz.ntmps14
 go_wp2_with (first | ((with_reducible refine gate_dst (N := 3) rfl ?_); refine zb 3 #[.int .i64 a0_0, .slice A0_1 l0_1.length c0_1] 25 ?_; intro gb101 hg w5 hbox hb; have BK101 := Aside0.mk (hbox); have GW101 := zg HB hg; have GE101 := GW101; replace HB := zBb HB hb; clear hb hbox hg; obtain ⟨hcz6_0, hcz6_1, hfz6_0, hfz6_1⟩ := zf2 BK101) | ((with_reducible refine gate_callee (f := 48) rfl ?_); refine zG (some 13) Tryz.func48 #[.int .i64 a0_0, .slice A1 l1.length c1, .string a2, .slice A0_1 l0_1.length c0_1] ?_; (with_reducible refine (galoisref09_PowMod.calls k a0_0 _ _ l1 a2 _ _ l0_1 t102 _ (zC (Kd.C_below HR1.out HB.out)) HC1.out (zC (Kd.C_below HR0_1.out HB.out)) HC0_1.out A4.out).mono ?_); rintro e w7 ⟨v103, rfl, ho0, hb⟩; refine ⟨_, rfl, ?_⟩; have HO104 := zWV (fun k_ => (w.heap.size ≤ k_) ∧ k_ ≠ gb101) ho0 HB (fun k_ hk_ => ⟨(Nat.le_trans (zS HB) hk_), (Kd.freshB (zK BK101.out) k_ hk_)⟩); replace BK101 := zKb BK101 hb; replace HB := zBb HB hb; (try clear hb); (try clear ho0)))
 go_ret
 exact ⟨_, zQ, zV (Kd.V_mono HO104.out (fun _ hk => hk.1)), zT⟩
def galoisref15_Mul.f (k : Nat) (a0_0 : Int) (l0_1 : List Int) (l1 : List Int) (l2 : List Int) : Option (List Int) := (galoisref09_MulMod.f k a0_0 l1 l2 l0_1).bind fun t102 => (some t102)
theorem galoisref15_Mul.mono : ∀ a0 a1 a2 a3 k, LeO (galoisref15_Mul.f k a0 a1 a2 a3) (galoisref15_Mul.f (k + 1) a0 a1 a2 a3) := by
 intro a0 a1 a2 a3 k
 unfold galoisref15_Mul.f
 with_reducible repeat' first | exact galoisref09_MulMod.mono _ _ _ _ _ | exact LeO.refl _ | exact LeO.none _ | refine LeO.ite ?_ ?_ | refine LeO.bind ?_ (fun _ => ?_)
theorem galoisref15_Mul.calls (k : Nat) (a0_0 : Int) (A0_1 : Option Addr) (c0_1 : Nat) (l0_1 : List Int) (A1 : Option Addr) (c1 : Nat) (l1 : List Int) (A2 : Option Addr) (c2 : Nat) (l2 : List Int) (r : List Int) (w : World) (hr0_1 : Kd.C (Kd.int .i64) w A0_1 l0_1.length l0_1) (hc0_1 : l0_1.length ≤ c0_1) (hr1 : Kd.C (Kd.int .i64) w A1 l1.length l1) (hc1 : l1.length ≤ c1) (hr2 : Kd.C (Kd.int .i64) w A2 l2.length l2) (hc2 : l2.length ≤ c2) (h : galoisref15_Mul.f k a0_0 l0_1 l1 l2 = some r) :
  Calls Tryz.prog 17 #[.agg #[.int .i64 a0_0, .slice A0_1 l0_1.length c0_1], .slice A1 l1.length c1, .slice A2 l2.length c2] w fun e w' => ∃ v0_ : Value, e = .returned (v0_) ∧ Kd.V (Kd.int .i64) 3 w' w.heap.size (fun k_ => (w.heap.size ≤ k_)) v0_ r ∧ Below w.heap.size w w' := by
 have hu25 := Tryz.underlying25
 have HR0_1 := Aside0.mk hr0_1
 have HC0_1 := Aside0.mk hc0_1
 clear hr0_1 hc0_1
 have HR1 := Aside0.mk hr1
 have HC1 := Aside0.mk hc1
 clear hr1 hc1
 have HR2 := Aside0.mk hr2
 have HC2 := Aside0.mk hc2
 clear hr2 hc2
 have HB := Aside0.mk (Below.refl w.heap.size w)
 have H := h; clear h; unfold galoisref15_Mul.f at H
 obtain ⟨t102, A4, H⟩ := zO H
 obtain rfl := Option.some.inj H
 go_enter Tryz.func17, Tryz.ntmps17
 go_wp2_with (first | ((with_reducible refine gate_dst (N := 3) rfl ?_); refine zb 3 #[.int .i64 a0_0, .slice A0_1 l0_1.length c0_1] 25 ?_; intro gb101 hg w5 hbox hb; have BK101 := Aside0.mk (hbox); have GW101 := zg HB hg; have GE101 := GW101; replace HB := zBb HB hb; clear hb hbox hg; obtain ⟨hcz6_0, hcz6_1, hfz6_0, hfz6_1⟩ := zf2 BK101) | ((with_reducible refine gate_callee (f := 51) rfl ?_); refine zG (some 13) Tryz.func51 #[.int .i64 a0_0, .slice A1 l1.length c1, .slice A2 l2.length c2, .slice A0_1 l0_1.length c0_1] ?_; (with_reducible refine (galoisref09_MulMod.calls k a0_0 _ _ l1 _ _ l2 _ _ l0_1 t102 _ (zC (Kd.C_below HR1.out HB.out)) HC1.out (zC (Kd.C_below HR2.out HB.out)) HC2.out (zC (Kd.C_below HR0_1.out HB.out)) HC0_1.out A4.out).mono ?_); rintro e w7 ⟨v103, rfl, ho0, hb⟩; refine ⟨_, rfl, ?_⟩; have HO104 := zWV (fun k_ => (w.heap.size ≤ k_) ∧ k_ ≠ gb101) ho0 HB (fun k_ hk_ => ⟨(Nat.le_trans (zS HB) hk_), (Kd.freshB (zK BK101.out) k_ hk_)⟩); replace BK101 := zKb BK101 hb; replace HB := zBb HB hb; (try clear hb); (try clear ho0)))
 go_ret
 exact ⟨_, zQ, zV (Kd.V_mono HO104.out (fun _ hk => hk.1)), zT⟩
def galoislaw15_short.f (a0_0 : Int) (l0_1 : List Int) (l1 : List Int) (l2 : List Int) : Option (Bool) := if (l0_1.length : Int) ≤ 70 then (if (l1.length : Int) ≤ 70 then (some (decide ((l2.length : Int) ≤ 70))) else (some false)) else (some false)
theorem galoislaw15_short.calls (a0_0 : Int) (A0_1 : Option Addr) (c0_1 : Nat) (l0_1 : List Int) (A1 : Option Addr) (c1 : Nat) (l1 : List Int) (A2 : Option Addr) (c2 : Nat) (l2 : List Int) (r : Bool) (w : World) (hr0_1 : Kd.C (Kd.int .i64) w A0_1 l0_1.length l0_1) (hc0_1 : l0_1.length ≤ c0_1) (hr1 : Kd.C (Kd.int .i64) w A1 l1.length l1) (hc1 : l1.length ≤ c1) (hr2 : Kd.C (Kd.int .i64) w A2 l2.length l2) (hc2 : l2.length ≤ c2) (h : galoislaw15_short.f a0_0 l0_1 l1 l2 = some r) :
  Calls Tryz.prog 7 #[.agg #[.int .i64 a0_0, .slice A0_1 l0_1.length c0_1], .slice A1 l1.length c1, .slice A2 l2.length c2] w fun e w' => e = .returned (.bool r) ∧ Below w.heap.size w w' := by
 have hu25 := Tryz.underlying25
 have HR0_1 := Aside0.mk hr0_1
 have HC0_1 := Aside0.mk hc0_1
 clear hr0_1 hc0_1
 have HR1 := Aside0.mk hr1
 have HC1 := Aside0.mk hc1
 clear hr1 hc1
 have HR2 := Aside0.mk hr2
 have HC2 := Aside0.mk hc2
 clear hr2 hc2
 have HB := Aside0.mk (Below.refl w.heap.size w)
 have H := h; clear h; unfold galoislaw15_short.f at H
 by_cases c4 : (l0_1.length : Int) ≤ 70
 rotate_left
 ·rw [if_neg c4] at H
  have c4b0 : decide ((l0_1.length : Int) ≤ 70) = false := decide_eq_false c4
  have c4b1 : decide (l0_1.length ≤ 70) = false := decide_eq_false (by omega)
  clear c4
  obtain rfl := Option.some.inj H
  go_enter Tryz.func7, Tryz.ntmps7
  go_wp2_with (first | ((with_reducible refine gate_dst (N := 3) rfl ?_); (try (refine gate_guard (by rfl) ?_; dsimp only)); refine zb 3 #[.int .i64 a0_0, .slice A0_1 l0_1.length c0_1] 25 ?_; intro gb101 hg w10 hbox hb; have BK101 := Aside0.mk (hbox); have GW101 := zg HB hg; have GE101 := GW101; replace HB := zBb HB hb; clear hb hbox hg; obtain ⟨hcz11_0, hcz11_1, hfz11_0, hfz11_1⟩ := zf2 BK101))
  go_ret
  exact ⟨zQ, zT⟩
 rw [if_pos c4] at H
 have c4b0 : decide ((l0_1.length : Int) ≤ 70) = true := decide_eq_true c4
 have c4b1 : decide (l0_1.length ≤ 70) = true := decide_eq_true (by omega)
 clear c4
 by_cases c5 : (l1.length : Int) ≤ 70
 ·rw [if_pos c5] at H
  have c5b0 : decide ((l1.length : Int) ≤ 70) = true := decide_eq_true c5
  have c5b1 : decide (l1.length ≤ 70) = true := decide_eq_true (by omega)
  clear c5
  obtain rfl := Option.some.inj H
  go_enter Tryz.func7, Tryz.ntmps7
  go_wp2_with (first | ((with_reducible refine gate_dst (N := 3) rfl ?_); (try (refine gate_guard (by rfl) ?_; dsimp only)); refine zb 3 #[.int .i64 a0_0, .slice A0_1 l0_1.length c0_1] 25 ?_; intro gb101 hg w6 hbox hb; have BK101 := Aside0.mk (hbox); have GW101 := zg HB hg; have GE101 := GW101; replace HB := zBb HB hb; clear hb hbox hg; obtain ⟨hcz7_0, hcz7_1, hfz7_0, hfz7_1⟩ := zf2 BK101))
  go_ret
  exact ⟨zQ, zT⟩
 rw [if_neg c5] at H
 have c5b0 : decide ((l1.length : Int) ≤ 70) = false := decide_eq_false c5
 have c5b1 : decide (l1.length ≤ 70) = false := decide_eq_false (by omega)
 clear c5
 obtain rfl := Option.some.inj H
 go_enter Tryz.func7, Tryz.ntmps7
 go_wp2_with (first | ((with_reducible refine gate_dst (N := 3) rfl ?_); (try (refine gate_guard (by rfl) ?_; dsimp only)); refine zb 3 #[.int .i64 a0_0, .slice A0_1 l0_1.length c0_1] 25 ?_; intro gb101 hg w8 hbox hb; have BK101 := Aside0.mk (hbox); have GW101 := zg HB hg; have GE101 := GW101; replace HB := zBb HB hb; clear hb hbox hg; obtain ⟨hcz9_0, hcz9_1, hfz9_0, hfz9_1⟩ := zf2 BK101))
 go_ret
 exact ⟨zQ, zT⟩
def finitefield_Div.f (k : Nat) (a0_0 : Int) (l0_1 : List Int) (l1 : List Int) (l2 : List Int) : Option (List Int × Int) := (finitefield_check.f k a0_0 l0_1 (([l1, l2] : List (List Int)))).bind fun t105 => (if t105 = 0 then (if (l2.length : Int) = 0 then (some (([] : List Int), 6)) else ((gf_Field_Inverse.f k a0_0 l0_1 l2).bind fun t107 => ((gf_Field_Mul.f k a0_0 l0_1 l1 t107).bind fun t110 => (some (t110, 0))))) else (some (([] : List Int), t105)))
theorem finitefield_Div.mono : ∀ a0 a1 a2 a3 k, LeO (finitefield_Div.f k a0 a1 a2 a3) (finitefield_Div.f (k + 1) a0 a1 a2 a3) := by
 intro a0 a1 a2 a3 k
 unfold finitefield_Div.f
 with_reducible repeat' first | exact finitefield_check.mono _ _ _ _ | exact gf_Field_Inverse.mono _ _ _ _ | exact gf_Field_Mul.mono _ _ _ _ _ | exact LeO.refl _ | exact LeO.none _ | refine LeO.ite ?_ ?_ | refine LeO.bind ?_ (fun _ => ?_)
def finitefield_Div.T7 : Bool × List (List Nat × List Nat) := (true, [([], []), ([], []), ([], []), ([], []), ([2, 3], [2, 3]), ([0, 1, 4, 4], [0, 1, 4]), ([5, 5, 0, 1, 2, 3, 4, 5], [5]), ([6, 0, 1, 2, 3, 4, 5, 6], [])])
def finitefield_Div.B7 : List Nat := [0, 0, 0, 0, 12, 31, 63, 127]
theorem finitefield_Div.tab7 : rtab .any (opsOf Tryz.f8 7) = finitefield_Div.T7 := by kernel_rfl
theorem finitefield_Div.bits7 : waitsOk finitefield_Div.T7.2 finitefield_Div.B7 = true := by kernel_rfl
theorem finitefield_Div.calls (k : Nat) (a0_0 : Int) (P0_1_ : Nat → Prop) (A0_1 : Option Addr) (c0_1 : Nat) (l0_1 : List Int) (P1_ : Nat → Prop) (A1 : Option Addr) (c1 : Nat) (l1 : List Int) (P2_ : Nat → Prop) (A2 : Option Addr) (c2 : Nat) (l2 : List Int) (r1 : List Int) (r2 : Int) (w : World) (hs0_1 : Kd.V (Kd.int .i64) 3 w w.heap.size (fun k_ => P0_1_ k_) (.slice A0_1 l0_1.length c0_1) l0_1) (hs1 : Kd.V (Kd.int .i64) 3 w w.heap.size (fun k_ => P1_ k_) (.slice A1 l1.length c1) l1) (hs2 : Kd.V (Kd.int .i64) 3 w w.heap.size (fun k_ => P2_ k_) (.slice A2 l2.length c2) l2) (h : finitefield_Div.f k a0_0 l0_1 l1 l2 = some (r1, r2)) :
  Calls Tryz.prog 8 #[.agg #[.int .i64 a0_0, .slice A0_1 l0_1.length c0_1], .slice A1 l1.length c1, .slice A2 l2.length c2] w fun e w' => ∃ v0_ : Value, e = .returned (.tuple #[v0_, .int .i64 r2]) ∧ Kd.V (Kd.int .i64) 3 w' w.heap.size (fun k_ => ((P0_1_ k_ ∨ P1_ k_ ∨ P2_ k_) ∨ w.heap.size ≤ k_)) v0_ r1 ∧ Below w.heap.size w w' := by
 have hu25 := Tryz.underlying25
 have hu66 := Tryz.underlying66
 have HO0_1 := Aside0.mk (show Kd.V (Kd.int .i64) 3 w w.heap.size (fun k_ => ((P0_1_ k_ ∨ P1_ k_ ∨ P2_ k_) ∨ w.heap.size ≤ k_)) (.slice A0_1 l0_1.length c0_1) l0_1 from Kd.V_mono hs0_1 (fun k_ hk => .inl (.inl hk)))
 have HO1 := Aside0.mk (show Kd.V (Kd.int .i64) 3 w w.heap.size (fun k_ => ((P0_1_ k_ ∨ P1_ k_ ∨ P2_ k_) ∨ w.heap.size ≤ k_)) (.slice A1 l1.length c1) l1 from Kd.V_mono hs1 (fun k_ hk => .inl (.inr (.inl hk))))
 have HO2 := Aside0.mk (show Kd.V (Kd.int .i64) 3 w w.heap.size (fun k_ => ((P0_1_ k_ ∨ P1_ k_ ∨ P2_ k_) ∨ w.heap.size ≤ k_)) (.slice A2 l2.length c2) l2 from Kd.V_mono hs2 (fun k_ hk => .inl (.inr (.inr hk))))
 have HB := Aside0.mk (Below.refl w.heap.size w)
 have H := h; clear h; unfold finitefield_Div.f at H
 obtain ⟨y102, Ny102⟩ := zA ((([l1, l2] : List (List Int))) : List (List Int)); rw [← Ny102.out] at H
 obtain ⟨t105, A4, H⟩ := zO H
 by_cases c5 : t105 = 0
 rotate_left
 ·rw [if_neg c5] at H
  obtain ⟨c5b0, c5b1⟩ := zU c5
  simp only [Option.some.injEq, Prod.mk.injEq] at H
  obtain ⟨rfl, rfl⟩ := H
  go_enter Tryz.func8, Tryz.ntmps8
  go_wp2_with (first | ((with_reducible refine gate_dst (N := 3) rfl ?_); refine zb 3 #[.int .i64 a0_0, .slice A0_1 l0_1.length c0_1] 25 ?_; intro gb101 hg w30 hbox hb; replace HO0_1 := Aside0.mk (Kd.V_below (Kd.V_elderB (zV HO0_1.out) gb101 (Nat.le_of_eq hg.symm)) hb); replace HO1 := Aside0.mk (Kd.V_below (Kd.V_elderB (zV HO1.out) gb101 (Nat.le_of_eq hg.symm)) hb); replace HO2 := Aside0.mk (Kd.V_below (Kd.V_elderB (zV HO2.out) gb101 (Nat.le_of_eq hg.symm)) hb); have BK101 := Aside0.mk (hbox); have GW101 := zg HB hg; have GE101 := GW101; replace HB := zBb HB hb; clear hb hbox hg; obtain ⟨hcz31_0, hcz31_1, hfz31_0, hfz31_1⟩ := zf2 BK101) | ((with_reducible refine gate_dst (N := 13) rfl ?_); refine Kd.N_lit (Kd.slice 3 (Kd.int .i64)) _ 23 ?hg (N' := 13) ?hd (xs := ([l1, l2] : List (List Int))) (inner := [.slice A1 l1.length c1, .slice A2 l2.length c2]) (ok := (fun k_ => ((P0_1_ k_ ∨ P1_ k_ ∨ P2_ k_) ∨ w.heap.size ≤ k_) ∧ k_ ≠ gb101)) (okp := (fun k_ => ((P0_1_ k_ ∨ P1_ k_ ∨ P2_ k_) ∨ w.heap.size ≤ k_) ∧ k_ ≠ gb101)) ?hr ?hp (fun _ hk => hk) ((show ∀ k_, w30.heap.size ≤ k_ → (fun k_ => ((P0_1_ k_ ∨ P1_ k_ ∨ P2_ k_) ∨ w.heap.size ≤ k_) ∧ k_ ≠ gb101) k_ from fun k_ hk => ⟨(.inr (Nat.le_trans (zS HB) hk)), Kd.freshB (zK BK101.out) k_ hk⟩) _ (Nat.le_refl _)) (Below.refl _ _) (Nat.le_refl _) (by simp) ?_; (case hd => rfl); (case hg => rfl); (case hr => go_simp <;> rfl); (case hp => exact (Reps.one (show Kd.FK (Kd.slice 3 (Kd.int .i64)) _ _ l1 [.slice A1 l1.length c1] from (Kd.FK_slice_mk (Kd.V_reads' (Kd.V_mono (ok' := (fun k_ => ((P0_1_ k_ ∨ P1_ k_ ∨ P2_ k_) ∨ w.heap.size ≤ k_) ∧ k_ ≠ gb101)) (HO1.out) (fun k_ hk => ⟨hk.1, hk.2⟩))).2.1 (Kd.V_F (Kd.V_mono (ok' := (fun k_ => ((P0_1_ k_ ∨ P1_ k_ ∨ P2_ k_) ∨ w.heap.size ≤ k_) ∧ k_ ≠ gb101)) (HO1.out) (fun k_ hk => ⟨hk.1, hk.2⟩))))) (Reps.one (show Kd.FK (Kd.slice 3 (Kd.int .i64)) _ _ l2 [.slice A2 l2.length c2] from (Kd.FK_slice_mk (Kd.V_reads' (Kd.V_mono (ok' := (fun k_ => ((P0_1_ k_ ∨ P1_ k_ ∨ P2_ k_) ∨ w.heap.size ≤ k_) ∧ k_ ≠ gb101)) (HO2.out) (fun k_ hk => ⟨hk.1, hk.2⟩))).2.1 (Kd.V_F (Kd.V_mono (ok' := (fun k_ => ((P0_1_ k_ ∨ P1_ k_ ∨ P2_ k_) ∨ w.heap.size ≤ k_) ∧ k_ ≠ gb101)) (HO2.out) (fun k_ hk => ⟨hk.1, hk.2⟩))))) (Reps.none _ _)))); intro v103 w32 ho33 hb hg_ hnew_; clear hg_ hnew_; (first | rw [← Ny102.out] at ho33 | (simp only [Int.reduceToNat] at ho33; rw [← Ny102.out] at ho33)); replace HO0_1 := Aside0.mk (Kd.V_elder' (zV HO0_1.out) (Kd.N_base ho33) hb); replace HO1 := Aside0.mk (Kd.V_elder' (zV HO1.out) (Kd.N_base ho33) hb); replace HO2 := Aside0.mk (Kd.V_elder' (zV HO2.out) (Kd.N_base ho33) hb); have HO104 := Aside0.mk (Kd.N_lower ho33 (zS HB)); replace BK101 := zKb BK101 hb; replace HB := zBb HB hb; clear hb ho33; obtain ⟨Ao34, co34, eo34⟩ := Kd.N_slice HO104.out; subst eo34) | ((with_reducible refine gate_callee (f := 41) rfl ?_); refine zG (some 14) Tryz.func41 #[.agg #[.int .i64 a0_0, .slice A0_1 l0_1.length c0_1], .slice Ao34 y102.length co34] ?_; (with_reducible refine (finitefield_check.calls k a0_0 _ _ l0_1 _ _ y102 t105 _ (zC ((Kd.V_reads' HO0_1.out).2.2)) ((Kd.V_reads' HO0_1.out).2.1) (zC ((Kd.N_reads' HO104.out).2.2)) ((Kd.N_reads' HO104.out).2.1) A4.out).mono ?_); rintro e w35 ⟨rfl, hb⟩; refine ⟨_, rfl, ?_⟩; replace HO0_1 := zVb HO0_1 hb; replace HO1 := zVb HO1 hb; replace HO2 := zVb HO2 hb; replace HO104 := zNb HO104 hb; replace BK101 := zKb BK101 hb; replace HB := zBb HB hb; (try clear hb)))
  go_ret2
  exact ⟨_, zQ, zL, zT⟩
 rw [if_pos c5] at H
 obtain ⟨c5b0, c5b1⟩ := zE c5; clear c5
 by_cases c6 : (l2.length : Int) = 0
 ·rw [if_pos c6] at H
  obtain ⟨c6b0, c6b1⟩ := zE c6; clear c6
  simp only [Option.some.injEq, Prod.mk.injEq] at H
  obtain ⟨rfl, rfl⟩ := H
  go_enter Tryz.func8, Tryz.ntmps8
  go_wp2_with (first | ((with_reducible refine gate_dst (N := 3) rfl ?_); refine zb 3 #[.int .i64 a0_0, .slice A0_1 l0_1.length c0_1] 25 ?_; intro gb101 hg w7 hbox hb; replace HO0_1 := Aside0.mk (Kd.V_below (Kd.V_elderB (zV HO0_1.out) gb101 (Nat.le_of_eq hg.symm)) hb); replace HO1 := Aside0.mk (Kd.V_below (Kd.V_elderB (zV HO1.out) gb101 (Nat.le_of_eq hg.symm)) hb); replace HO2 := Aside0.mk (Kd.V_below (Kd.V_elderB (zV HO2.out) gb101 (Nat.le_of_eq hg.symm)) hb); have BK101 := Aside0.mk (hbox); have GW101 := zg HB hg; have GE101 := GW101; replace HB := zBb HB hb; clear hb hbox hg; obtain ⟨hcz8_0, hcz8_1, hfz8_0, hfz8_1⟩ := zf2 BK101) | ((with_reducible refine gate_dst (N := 13) rfl ?_); refine Kd.N_lit (Kd.slice 3 (Kd.int .i64)) _ 23 ?hg (N' := 13) ?hd (xs := ([l1, l2] : List (List Int))) (inner := [.slice A1 l1.length c1, .slice A2 l2.length c2]) (ok := (fun k_ => ((P0_1_ k_ ∨ P1_ k_ ∨ P2_ k_) ∨ w.heap.size ≤ k_) ∧ k_ ≠ gb101)) (okp := (fun k_ => ((P0_1_ k_ ∨ P1_ k_ ∨ P2_ k_) ∨ w.heap.size ≤ k_) ∧ k_ ≠ gb101)) ?hr ?hp (fun _ hk => hk) ((show ∀ k_, w7.heap.size ≤ k_ → (fun k_ => ((P0_1_ k_ ∨ P1_ k_ ∨ P2_ k_) ∨ w.heap.size ≤ k_) ∧ k_ ≠ gb101) k_ from fun k_ hk => ⟨(.inr (Nat.le_trans (zS HB) hk)), Kd.freshB (zK BK101.out) k_ hk⟩) _ (Nat.le_refl _)) (Below.refl _ _) (Nat.le_refl _) (by simp) ?_; (case hd => rfl); (case hg => rfl); (case hr => go_simp <;> rfl); (case hp => exact (Reps.one (show Kd.FK (Kd.slice 3 (Kd.int .i64)) _ _ l1 [.slice A1 l1.length c1] from (Kd.FK_slice_mk (Kd.V_reads' (Kd.V_mono (ok' := (fun k_ => ((P0_1_ k_ ∨ P1_ k_ ∨ P2_ k_) ∨ w.heap.size ≤ k_) ∧ k_ ≠ gb101)) (HO1.out) (fun k_ hk => ⟨hk.1, hk.2⟩))).2.1 (Kd.V_F (Kd.V_mono (ok' := (fun k_ => ((P0_1_ k_ ∨ P1_ k_ ∨ P2_ k_) ∨ w.heap.size ≤ k_) ∧ k_ ≠ gb101)) (HO1.out) (fun k_ hk => ⟨hk.1, hk.2⟩))))) (Reps.one (show Kd.FK (Kd.slice 3 (Kd.int .i64)) _ _ l2 [.slice A2 l2.length c2] from (Kd.FK_slice_mk (Kd.V_reads' (Kd.V_mono (ok' := (fun k_ => ((P0_1_ k_ ∨ P1_ k_ ∨ P2_ k_) ∨ w.heap.size ≤ k_) ∧ k_ ≠ gb101)) (HO2.out) (fun k_ hk => ⟨hk.1, hk.2⟩))).2.1 (Kd.V_F (Kd.V_mono (ok' := (fun k_ => ((P0_1_ k_ ∨ P1_ k_ ∨ P2_ k_) ∨ w.heap.size ≤ k_) ∧ k_ ≠ gb101)) (HO2.out) (fun k_ hk => ⟨hk.1, hk.2⟩))))) (Reps.none _ _)))); intro v103 w9 ho10 hb hg_ hnew_; clear hg_ hnew_; (first | rw [← Ny102.out] at ho10 | (simp only [Int.reduceToNat] at ho10; rw [← Ny102.out] at ho10)); replace HO0_1 := Aside0.mk (Kd.V_elder' (zV HO0_1.out) (Kd.N_base ho10) hb); replace HO1 := Aside0.mk (Kd.V_elder' (zV HO1.out) (Kd.N_base ho10) hb); replace HO2 := Aside0.mk (Kd.V_elder' (zV HO2.out) (Kd.N_base ho10) hb); have HO104 := Aside0.mk (Kd.N_lower ho10 (zS HB)); replace BK101 := zKb BK101 hb; replace HB := zBb HB hb; clear hb ho10; obtain ⟨Ao11, co11, eo11⟩ := Kd.N_slice HO104.out; subst eo11) | ((with_reducible refine gate_callee (f := 41) rfl ?_); refine zG (some 14) Tryz.func41 #[.agg #[.int .i64 a0_0, .slice A0_1 l0_1.length c0_1], .slice Ao11 y102.length co11] ?_; (with_reducible refine (finitefield_check.calls k a0_0 _ _ l0_1 _ _ y102 t105 _ (zC ((Kd.V_reads' HO0_1.out).2.2)) ((Kd.V_reads' HO0_1.out).2.1) (zC ((Kd.N_reads' HO104.out).2.2)) ((Kd.N_reads' HO104.out).2.1) A4.out).mono ?_); rintro e w12 ⟨rfl, hb⟩; refine ⟨_, rfl, ?_⟩; replace HO0_1 := zVb HO0_1 hb; replace HO1 := zVb HO1 hb; replace HO2 := zVb HO2 hb; replace HO104 := zNb HO104 hb; replace BK101 := zKb BK101 hb; replace HB := zBb HB hb; (try clear hb)))
  go_ret2
  exact ⟨_, zQ, zL, zT⟩
 rw [if_neg c6] at H
 obtain ⟨c6b0, c6b1⟩ := zU c6
 have c6b2 : ¬ (l2 = []) := fun h_ => c6 (by rw [h_]; rfl)
 obtain ⟨t107, A13, H⟩ := zO H
 obtain ⟨t110, A14, H⟩ := zO H
 simp only [Option.some.injEq, Prod.mk.injEq] at H
 obtain ⟨rfl, rfl⟩ := H
 go_enter Tryz.func8, Tryz.ntmps8
 try go_wp2_with (first | ((with_reducible refine gate_dst (N := 3) rfl ?_); refine zb 3 #[.int .i64 a0_0, .slice A0_1 l0_1.length c0_1] 25 ?_; intro gb101 hg w15 hbox hb; replace HO0_1 := Aside0.mk (Kd.V_below (Kd.V_elderB (zV HO0_1.out) gb101 (Nat.le_of_eq hg.symm)) hb); replace HO1 := Aside0.mk (Kd.V_below (Kd.V_elderB (zV HO1.out) gb101 (Nat.le_of_eq hg.symm)) hb); replace HO2 := Aside0.mk (Kd.V_below (Kd.V_elderB (zV HO2.out) gb101 (Nat.le_of_eq hg.symm)) hb); have BK101 := Aside0.mk (hbox); have GW101 := zg HB hg; have GE101 := GW101; replace HB := zBb HB hb; clear hb hbox hg; obtain ⟨hcz16_0, hcz16_1, hfz16_0, hfz16_1⟩ := zf2 BK101) | ((with_reducible refine gate_dst (N := 13) rfl ?_); refine Kd.N_lit (Kd.slice 3 (Kd.int .i64)) _ 23 ?hg (N' := 13) ?hd (xs := ([l1, l2] : List (List Int))) (inner := [.slice A1 l1.length c1, .slice A2 l2.length c2]) (ok := (fun k_ => ((P0_1_ k_ ∨ P1_ k_ ∨ P2_ k_) ∨ w.heap.size ≤ k_) ∧ k_ ≠ gb101)) (okp := (fun k_ => ((P0_1_ k_ ∨ P1_ k_ ∨ P2_ k_) ∨ w.heap.size ≤ k_) ∧ k_ ≠ gb101)) ?hr ?hp (fun _ hk => hk) ((show ∀ k_, w15.heap.size ≤ k_ → (fun k_ => ((P0_1_ k_ ∨ P1_ k_ ∨ P2_ k_) ∨ w.heap.size ≤ k_) ∧ k_ ≠ gb101) k_ from fun k_ hk => ⟨(.inr (Nat.le_trans (zS HB) hk)), Kd.freshB (zK BK101.out) k_ hk⟩) _ (Nat.le_refl _)) (Below.refl _ _) (Nat.le_refl _) (by simp) ?_; (case hd => rfl); (case hg => rfl); (case hr => go_simp <;> rfl); (case hp => exact (Reps.one (show Kd.FK (Kd.slice 3 (Kd.int .i64)) _ _ l1 [.slice A1 l1.length c1] from (Kd.FK_slice_mk (Kd.V_reads' (Kd.V_mono (ok' := (fun k_ => ((P0_1_ k_ ∨ P1_ k_ ∨ P2_ k_) ∨ w.heap.size ≤ k_) ∧ k_ ≠ gb101)) (HO1.out) (fun k_ hk => ⟨hk.1, hk.2⟩))).2.1 (Kd.V_F (Kd.V_mono (ok' := (fun k_ => ((P0_1_ k_ ∨ P1_ k_ ∨ P2_ k_) ∨ w.heap.size ≤ k_) ∧ k_ ≠ gb101)) (HO1.out) (fun k_ hk => ⟨hk.1, hk.2⟩))))) (Reps.one (show Kd.FK (Kd.slice 3 (Kd.int .i64)) _ _ l2 [.slice A2 l2.length c2] from (Kd.FK_slice_mk (Kd.V_reads' (Kd.V_mono (ok' := (fun k_ => ((P0_1_ k_ ∨ P1_ k_ ∨ P2_ k_) ∨ w.heap.size ≤ k_) ∧ k_ ≠ gb101)) (HO2.out) (fun k_ hk => ⟨hk.1, hk.2⟩))).2.1 (Kd.V_F (Kd.V_mono (ok' := (fun k_ => ((P0_1_ k_ ∨ P1_ k_ ∨ P2_ k_) ∨ w.heap.size ≤ k_) ∧ k_ ≠ gb101)) (HO2.out) (fun k_ hk => ⟨hk.1, hk.2⟩))))) (Reps.none _ _)))); intro v103 w17 ho18 hb hg_ hnew_; clear hg_ hnew_; (first | rw [← Ny102.out] at ho18 | (simp only [Int.reduceToNat] at ho18; rw [← Ny102.out] at ho18)); replace HO0_1 := Aside0.mk (Kd.V_elder' (zV HO0_1.out) (Kd.N_base ho18) hb); replace HO1 := Aside0.mk (Kd.V_elder' (zV HO1.out) (Kd.N_base ho18) hb); replace HO2 := Aside0.mk (Kd.V_elder' (zV HO2.out) (Kd.N_base ho18) hb); have HO104 := Aside0.mk (Kd.N_lower ho18 (zS HB)); replace BK101 := zKb BK101 hb; replace HB := zBb HB hb; clear hb ho18; obtain ⟨Ao19, co19, eo19⟩ := Kd.N_slice HO104.out; subst eo19) | ((with_reducible refine gate_callee (f := 41) rfl ?_); refine zG (some 14) Tryz.func41 #[.agg #[.int .i64 a0_0, .slice A0_1 l0_1.length c0_1], .slice Ao19 y102.length co19] ?_; (with_reducible refine (finitefield_check.calls k a0_0 _ _ l0_1 _ _ y102 t105 _ (zC ((Kd.V_reads' HO0_1.out).2.2)) ((Kd.V_reads' HO0_1.out).2.1) (zC ((Kd.N_reads' HO104.out).2.2)) ((Kd.N_reads' HO104.out).2.1) A4.out).mono ?_); rintro e w20 ⟨rfl, hb⟩; refine ⟨_, rfl, ?_⟩; replace HO0_1 := zVb HO0_1 hb; replace HO1 := zVb HO1 hb; replace HO2 := zVb HO2 hb; replace HO104 := zNb HO104 hb; replace BK101 := zKb BK101 hb; replace HB := zBb HB hb; (try clear hb); obtain ⟨hcz21_0, hcz21_1, hfz21_0, hfz21_1⟩ := zf2 BK101) | ((with_reducible refine gate_dst (N := 9) rfl ?_); refine zb 9 #[.int .i64 0, .slice none 0 0] 66 ?_; intro gb106 hg w22 hbox hb; replace HO0_1 := Aside0.mk (Kd.V_below (Kd.V_elderB (zV HO0_1.out) gb106 (Nat.le_of_eq hg.symm)) hb); replace HO1 := Aside0.mk (Kd.V_below (Kd.V_elderB (zV HO1.out) gb106 (Nat.le_of_eq hg.symm)) hb); replace HO2 := Aside0.mk (Kd.V_below (Kd.V_elderB (zV HO2.out) gb106 (Nat.le_of_eq hg.symm)) hb); replace HO104 := Aside0.mk (Kd.N_below (Kd.N_elderB (zN HO104.out) gb106 (Nat.le_of_eq hg.symm)) hb); have BK106 := Aside0.mk (hbox); have GW106 := zg HB hg; have GE106 := GW106; replace HB := zBb HB hb; have NB101_106 := Aside0.mk ((by rw [hg]; exact Nat.ne_of_lt (blk_lt (zK BK101.out)) : gb101 ≠ gb106)); have NB106_101 := Aside0.mk ((by rw [hg]; exact Nat.ne_of_gt (blk_lt (zK BK101.out)) : gb106 ≠ gb101)); replace BK101 := zKb BK101 hb; clear hb hbox hg; have hnb23 := NB106_101.out; have hnc23 := NB101_106.out; obtain ⟨hcz24_0, hcz24_1, hfz24_0, hfz24_1⟩ := zf2 BK106))
 have n0_ : Aside0 (Kd.V (Kd.int .i64) 3 ((w22.setCell ⟨gb106, 0, none⟩ (.int .i64 a0_0)).setCell ⟨gb106, 1, none⟩ (.slice A0_1 l0_1.length c0_1)) w.heap.size (fun k_ => ((P0_1_ k_ ∨ P1_ k_ ∨ P2_ k_) ∨ w.heap.size ≤ k_) ∧ some k_ ≠ (.slice Ao19 y102.length co19 : Value).ownBlock ∧ k_ ≠ gb101 ∧ k_ ≠ gb106) (.slice A0_1 l0_1.length c0_1) l0_1) := ⟨zV (Kd.V_mono (Kd.V_far (p := ⟨gb106, 1, none⟩) (Kd.V_far (p := ⟨gb106, 0, none⟩) (Kd.V_mono HO0_1.out (fun k_ hk => (⟨hk, hk.2⟩ : _ ∧ k_ ≠ gb106))) (fun _ hk => hk.2) (.int .i64 a0_0)) (fun _ hk => hk.2) (.slice A0_1 l0_1.length c0_1)) (fun _ hk => ⟨hk.1.1.1.1, ⟨hk.1.1.2, ⟨hk.1.1.1.2, hk.1.2⟩⟩⟩))⟩
 have n1_ : Aside0 (Kd.V (Kd.int .i64) 3 ((w22.setCell ⟨gb106, 0, none⟩ (.int .i64 a0_0)).setCell ⟨gb106, 1, none⟩ (.slice A0_1 l0_1.length c0_1)) w.heap.size (fun k_ => ((P0_1_ k_ ∨ P1_ k_ ∨ P2_ k_) ∨ w.heap.size ≤ k_) ∧ some k_ ≠ (.slice Ao19 y102.length co19 : Value).ownBlock ∧ k_ ≠ gb101 ∧ k_ ≠ gb106) (.slice A1 l1.length c1) l1) := ⟨zV (Kd.V_mono (Kd.V_far (p := ⟨gb106, 1, none⟩) (Kd.V_far (p := ⟨gb106, 0, none⟩) (Kd.V_mono HO1.out (fun k_ hk => (⟨hk, hk.2⟩ : _ ∧ k_ ≠ gb106))) (fun _ hk => hk.2) (.int .i64 a0_0)) (fun _ hk => hk.2) (.slice A0_1 l0_1.length c0_1)) (fun _ hk => ⟨hk.1.1.1.1, ⟨hk.1.1.2, ⟨hk.1.1.1.2, hk.1.2⟩⟩⟩))⟩
 have n2_ : Aside0 (Kd.V (Kd.int .i64) 3 ((w22.setCell ⟨gb106, 0, none⟩ (.int .i64 a0_0)).setCell ⟨gb106, 1, none⟩ (.slice A0_1 l0_1.length c0_1)) w.heap.size (fun k_ => ((P0_1_ k_ ∨ P1_ k_ ∨ P2_ k_) ∨ w.heap.size ≤ k_) ∧ some k_ ≠ (.slice Ao19 y102.length co19 : Value).ownBlock ∧ k_ ≠ gb101 ∧ k_ ≠ gb106) (.slice A2 l2.length c2) l2) := ⟨zV (Kd.V_mono (Kd.V_far (p := ⟨gb106, 1, none⟩) (Kd.V_far (p := ⟨gb106, 0, none⟩) (Kd.V_mono HO2.out (fun k_ hk => (⟨hk, hk.2⟩ : _ ∧ k_ ≠ gb106))) (fun _ hk => hk.2) (.int .i64 a0_0)) (fun _ hk => hk.2) (.slice A0_1 l0_1.length c0_1)) (fun _ hk => ⟨hk.1.1.1.1, ⟨hk.1.1.2, ⟨hk.1.1.1.2, hk.1.2⟩⟩⟩))⟩
 have n3_ : Aside0 (Kd.N (Kd.slice 3 (Kd.int .i64)) 23 ((w22.setCell ⟨gb106, 0, none⟩ (.int .i64 a0_0)).setCell ⟨gb106, 1, none⟩ (.slice A0_1 l0_1.length c0_1)) w.heap.size (fun k_ => ((P0_1_ k_ ∨ P1_ k_ ∨ P2_ k_) ∨ w.heap.size ≤ k_) ∧ k_ ≠ gb101 ∧ k_ ≠ gb106) (.slice Ao19 y102.length co19) y102) := ⟨zN (Kd.N_mono (Kd.N_far (p := ⟨gb106, 1, none⟩) (Kd.N_far (p := ⟨gb106, 0, none⟩) (Kd.N_mono HO104.out (fun k_ hk => (⟨hk, hk.2⟩ : _ ∧ k_ ≠ gb106))) (fun _ hk => hk.2) (.int .i64 a0_0)) (fun _ hk => hk.2) (.slice A0_1 l0_1.length c0_1)) (fun _ hk => ⟨hk.1.1.1, ⟨hk.1.1.2, hk.1.2⟩⟩))⟩
 have n4_ : Aside0 (((w22.setCell ⟨gb106, 0, none⟩ (.int .i64 a0_0)).setCell ⟨gb106, 1, none⟩ (.slice A0_1 l0_1.length c0_1)).heap[gb101]? = some (.cells #[.int .i64 a0_0, .slice A0_1 l0_1.length c0_1] 25 (0, 0))) := ⟨by (with_reducible repeat (first | refine blk_drewN ?_ _ | refine blk_drew ?_ | refine blk_alloc ?_ _)); refine blk_far ?_ NB101_106.out _; (with_reducible repeat (first | refine blk_drewN ?_ _ | refine blk_drew ?_ | refine blk_alloc ?_ _)); refine blk_far ?_ NB101_106.out _; (with_reducible repeat (first | refine blk_drewN ?_ _ | refine blk_drew ?_ | refine blk_alloc ?_ _)); exact BK101.out⟩
 have n5_ : Aside0 (((w22.setCell ⟨gb106, 0, none⟩ (.int .i64 a0_0)).setCell ⟨gb106, 1, none⟩ (.slice A0_1 l0_1.length c0_1)).heap[gb106]? = some (.cells #[.int .i64 a0_0, .slice A0_1 l0_1.length c0_1] 66 (0, 0))) := ⟨by (with_reducible repeat (first | refine blk_drewN ?_ _ | refine blk_drew ?_ | refine blk_alloc ?_ _)); refine blk_put (cs := #[.int .i64 a0_0, .slice none 0 0]) ?_ 1 _ rfl; (with_reducible repeat (first | refine blk_drewN ?_ _ | refine blk_drew ?_ | refine blk_alloc ?_ _)); refine blk_put (cs := #[.int .i64 0, .slice none 0 0]) ?_ 0 _ rfl; (with_reducible repeat (first | refine blk_drewN ?_ _ | refine blk_drew ?_ | refine blk_alloc ?_ _)); exact BK106.out⟩
 have n6_ : Aside0 (Below w.heap.size w ((w22.setCell ⟨gb106, 0, none⟩ (.int .i64 a0_0)).setCell ⟨gb106, 1, none⟩ (.slice A0_1 l0_1.length c0_1))) := ⟨zT⟩
 (try clear HO0_1)
 (try clear HO1)
 (try clear HO2)
 (try clear HO104)
 (try clear BK101)
 (try clear BK106)
 (try clear HB)
 generalize ((w22.setCell ⟨gb106, 0, none⟩ (.int .i64 a0_0)).setCell ⟨gb106, 1, none⟩ (.slice A0_1 l0_1.length c0_1)) = w25 at n0_ n1_ n2_ n3_ n4_ n5_ n6_ ⊢
 have HO0_1 := n0_
 have HO1 := n1_
 have HO2 := n2_
 have HO104 := n3_
 have BK101 := n4_
 have BK106 := n5_
 have HB := n6_
 clear n0_ n1_ n2_ n3_ n4_ n5_ n6_
 replace HO0_1 := Aside0.mk (Kd.V_drew HO0_1.out)
 replace HO1 := Aside0.mk (Kd.V_drew HO1.out)
 replace HO2 := Aside0.mk (Kd.V_drew HO2.out)
 replace HO104 := Aside0.mk (Kd.N_drew HO104.out)
 replace BK101 := Aside0.mk (blk_drew BK101.out)
 replace BK106 := Aside0.mk (blk_drew BK106.out)
 replace HB := Aside0.mk (below_drew1 HB.out)
 refine start_ (n := 8) (S := fun w' => w'.cell? ⟨gb106, 0, none⟩ = some (.int .i64 a0_0) ∧ w'.cell? ⟨gb106, 1, none⟩ = some (.slice A0_1 l0_1.length c0_1)) (ds := []) #[false, false, false, false, false, false, false, false] (by kernel_rfl) rfl rfl ⟨(blk_cell BK106.out 0).trans rfl, (blk_cell BK106.out 1).trans rfl⟩ (fun hHeld => ?_); refine with_tabW finitefield_Div.tab7 finitefield_Div.bits7 (fun HT_ HW_ => ?_)
 generalize w25.drew = w26 at HO0_1 HO1 HO2 HO104 BK101 BK106 HB hHeld ⊢
 refine zP 1 24 ?_; refine zP 3 26 ?_
 refine take_ (i := 0) (N := some 23) (v := ?_) (a' := ?_) #[true, true, false, true, false, false, false, false] rfl rfl (take_ofW HT_.out HW_.out (by kernel_rfl)) (fun _ _ _ h => h) (Or.inl ⟨by rfl, ?_⟩) hHeld ?_ ?_
 rotate_left
 ·rintro w' ⟨s0, s1⟩
  go_simp
  with_reducible rfl
 rotate_left
 ·simp only [Act.put, List.setIfInBounds_toArray, List.set_cons_zero, List.set_cons_succ, i64_w, i32_w]
  rfl
 refine take_ (i := 2) (N := some 25) (v := ?_) (a' := ?_) #[true, true, true, true, false, false, false, false] rfl rfl (take_ofW HT_.out HW_.out (by kernel_rfl)) (fun _ _ _ h => h) (Or.inl ⟨by rfl, ?_⟩) hHeld ?_ ?_
 rotate_left
 ·rintro w' ⟨s0, s1⟩
  go_simp
  with_reducible rfl
 rotate_left
 ·simp only [Act.put, List.setIfInBounds_toArray, List.set_cons_zero, List.set_cons_succ, i64_w, i32_w]
  rfl
 refine one_ (i := 4) (N := some 27) #[true, true, true, true, true, false, false, false] rfl rfl (one_of HT_.out (by kernel_rfl)) (by decide) (fun K hK => ?_)
 refine goes_ Tryz.func43 (by kernel_rfl) rfl #[.agg #[.int .i64 a0_0, .slice A0_1 l0_1.length c0_1], .slice A2 l2.length c2] (by rfl) rfl rfl (by (try simp only [List.map_toArray, List.map_cons, List.map_nil]); first | done | rfl | (simp only [List.length_drop, List.length_take]; rfl)) ?_
 with_reducible refine (gf_Field_Inverse.calls k a0_0 (fun k_ => (((P0_1_ k_ ∨ P1_ k_ ∨ P2_ k_) ∨ w.heap.size ≤ k_) ∧ (some k_ ≠ (.slice Ao19 y102.length co19 : Value).ownBlock ∧ (k_ ≠ gb101 ∧ k_ ≠ gb106)))) _ _ l0_1 (fun k_ => (((P0_1_ k_ ∨ P1_ k_ ∨ P2_ k_) ∨ w.heap.size ≤ k_) ∧ (some k_ ≠ (.slice Ao19 y102.length co19 : Value).ownBlock ∧ (k_ ≠ gb101 ∧ k_ ≠ gb106)))) _ _ l2 t107 _ ?side1 ?side2 A13.out).mono ?_
 (case side1 => exact HO0_1.out)
 (case side2 => exact HO2.out)
 rintro e w27 ⟨v108, rfl, ho0, hb⟩
 refine ⟨_, rfl, ?_⟩
 replace HO0_1 := zVb HO0_1 hb
 replace HO1 := zVb HO1 hb
 replace HO2 := zVb HO2 hb
 have HO109 := Aside0.mk (Kd.V_lower (Kd.V_mono (ok' := fun k_ => ((P0_1_ k_ ∨ P1_ k_ ∨ P2_ k_) ∨ w.heap.size ≤ k_) ∧ some k_ ≠ (.slice Ao19 y102.length co19 : Value).ownBlock ∧ k_ ≠ gb101 ∧ k_ ≠ gb106) ho0 (fun k_ hk_ => ⟨Or.elim hk_ (fun hs_ => Or.elim hs_ (fun hs_ => hs_.1) (fun hs_ => hs_.1)) (fun hn_ => (.inr (Nat.le_trans (zS HB) hn_))), Or.elim hk_ (fun hs_ => Or.elim hs_ (fun hs_ => hs_.2.1) (fun hs_ => hs_.2.1)) (fun hn_ => (Kd.fresh' (Kd.N_lt (zN HO104.out)) k_ hn_)), Or.elim hk_ (fun hs_ => Or.elim hs_ (fun hs_ => hs_.2.2.1) (fun hs_ => hs_.2.2.1)) (fun hn_ => (Kd.freshB (zK BK101.out) k_ hn_)), Or.elim hk_ (fun hs_ => Or.elim hs_ (fun hs_ => hs_.2.2.2) (fun hs_ => hs_.2.2.2)) (fun hn_ => (Kd.freshB (zK BK106.out) k_ hn_))⟩)) (zS HB))
 replace HO104 := zNb HO104 hb
 replace BK101 := zKb BK101 hb
 replace BK106 := zKb BK106 hb
 replace HB := zBb HB hb
 (try clear hb)
 (try clear hb2)
 (try clear hk)
 (try clear hi)
 (try clear ho0)
 obtain ⟨Ao28, co28, eo28⟩ := Kd.V_slice HO109.out
 (first | subst eo28 | (injection eo28 with f1_ f2_ f3_; have f4_ := f1_.symm; have f5_ := f3_.symm; clear f1_ f2_ f3_; subst f4_; subst f5_))
 refine hK.out _ _ ⟨(blk_cell BK106.out 0).trans rfl, (blk_cell BK106.out 1).trans rfl⟩ (fun hHeld => ?_)
 clear hK K
 refine norm_ (a' := ?_) ?_ ?_
 rotate_left
 ·show Act.put _ (some 27) _ = _
  simp only [Act.put, List.setIfInBounds_toArray, List.set_cons_zero, List.set_cons_succ, i64_w, i32_w]
  rfl
 refine one_ (i := 5) (N := some 28) #[true, true, true, true, true, true, false, false] rfl rfl (one_of HT_.out (by kernel_rfl)) (by decide) (fun K hK => ?_)
 refine goes_ Tryz.func42 (by kernel_rfl) rfl #[.agg #[.int .i64 a0_0, .slice A0_1 l0_1.length c0_1], .slice A1 l1.length c1, .slice Ao28 t107.length co28] (by rfl) rfl rfl (by (try simp only [List.map_toArray, List.map_cons, List.map_nil]); first | done | rfl | (simp only [List.length_drop, List.length_take]; rfl)) ?_
 with_reducible refine (gf_Field_Mul.calls k a0_0 _ _ l0_1 _ _ l1 _ _ t107 t110 _ ?side1 ?side2 ?side3 ?side4 ?side5 ?side6 A14.out).mono ?_
 (case side1 => exact zC ((Kd.V_reads' HO0_1.out).2.2))
 (case side2 => exact (Kd.V_reads' HO0_1.out).2.1)
 (case side3 => exact zC ((Kd.V_reads' HO1.out).2.2))
 (case side4 => exact (Kd.V_reads' HO1.out).2.1)
 (case side5 => exact zC ((Kd.V_reads' HO109.out).2.2))
 (case side6 => exact (Kd.V_reads' HO109.out).2.1)
 rintro e w29 ⟨v111, rfl, ho0, hb⟩
 refine ⟨_, rfl, ?_⟩
 replace HO0_1 := zVb HO0_1 hb
 replace HO1 := zVb HO1 hb
 replace HO2 := zVb HO2 hb
 replace HO109 := zVb HO109 hb
 have HO112 := Aside0.mk (Kd.V_lower (Kd.V_mono (ok' := fun k_ => ((P0_1_ k_ ∨ P1_ k_ ∨ P2_ k_) ∨ w.heap.size ≤ k_) ∧ some k_ ≠ (.slice Ao19 y102.length co19 : Value).ownBlock ∧ k_ ≠ gb101 ∧ k_ ≠ gb106) ho0 (fun k_ hk_ => ⟨(.inr (Nat.le_trans (zS HB) hk_)), (Kd.fresh' (Kd.N_lt (zN HO104.out)) k_ hk_), (Kd.freshB (zK BK101.out) k_ hk_), (Kd.freshB (zK BK106.out) k_ hk_)⟩)) (zS HB))
 replace HO104 := zNb HO104 hb
 replace BK101 := zKb BK101 hb
 replace BK106 := zKb BK106 hb
 replace HB := zBb HB hb
 (try clear hb)
 (try clear hb2)
 (try clear hk)
 (try clear hi)
 (try clear ho0)
 refine hK.out _ _ ⟨(blk_cell BK106.out 0).trans rfl, (blk_cell BK106.out 1).trans rfl⟩ (fun hHeld => ?_)
 clear hK K
 refine norm_ (a' := ?_) ?_ ?_
 rotate_left
 ·show Act.put _ (some 28) _ = _
  simp only [Act.put, List.setIfInBounds_toArray, List.set_cons_zero, List.set_cons_succ, i64_w, i32_w]
  rfl
 refine zP 6 6 ?_; refine zP 7 7 ?_
 refine done_ (done_of HT_.out (by kernel_rfl)) ?_
 try go_wp2
 go_ret2
 exact ⟨_, zQ, zV (Kd.V_mono HO112.out (fun _ hk => hk.1)), zT⟩
end Go.Proofs.YtalnaafmonmlmaaGreat.Q
end

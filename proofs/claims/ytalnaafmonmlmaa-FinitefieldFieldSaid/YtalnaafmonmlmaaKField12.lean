/- Machine side and arithmetic of the law, put together by a program of the session. No conditions. -/
import Derived.Test.YtalnaafmonmlmaaKField5
import Derived.Test.YtalnaafmonmlmaaKField6
import Derived.Test.YtalnaafmonmlmaaKField8
import Derived.Test.YtalnaafmonmlmaaKField11
section
namespace Go.Proofs.Ytalnaafmonmlmaa.Q
open Go.RowKit Go.Proofs.YtalnaafmonmlmaaW.PrintWords Go.Proofs.YtalnaafmonmlmaaW.PrintLast Go.Proofs.YtalnaafmonmlmaaW.PrintMore
attribute [local go_sem] max2_int min2_int max_two min_two max_three min_three max_four min_four
set_option linter.unusedVariables false
set_option linter.unusedSimpArgs false
set_option maxHeartbeats 8000000
set_option maxRecDepth 100000
mutual
def galoislaw15_FinitefieldField.j0 : Nat → Bool → Int → List Int → List Int → List Int → List Int → Option (Bool)
 | 0, _, _, _, _, _, _ => none
 | k + 1, x58, x102000, x102001, x103000, x103001, x103002 => if x58 = true then ((galoislaw15_awake.f k).bind fun t108 => (some t108)) else ((finitefield_Add.f k x102000 x102001 x103000 x103001).bind fun bt109 => ((finitefield_Add.f k x102000 x102001 x103001 x103000).bind fun bt113 => ((finitefield_Mul.f k x102000 x102001 bt109.1 x103002).bind fun bt117 => ((finitefield_Mul.f k x102000 x102001 x103000 x103002).bind fun bt121 => ((finitefield_Mul.f k x102000 x102001 x103002 x103001).bind fun bt125 => ((finitefield_Add.f k x102000 x102001 bt121.1 bt125.1).bind fun bt129 => ((finitefield_Sub.f k x102000 x102001 bt109.1 x103001).bind fun bt133 => (if bt109.2 = 0 then (if bt113.2 = 0 then (if bt117.2 = 0 then (if bt121.2 = 0 then (if bt125.2 = 0 then (if bt129.2 = 0 then (if bt133.2 = 0 then ((galoisref09_Same.f k bt109.1 bt113.1).bind fun t137 => (if t137 = true then ((galoisref09_Same.f k bt117.1 bt129.1).bind fun t138 => (if t138 = true then ((galoisref09_Same.f k bt133.1 x103000).bind fun t139 => (galoislaw15_FinitefieldField.j1 k bt121.1 bt125.1 (!t139) x102000 x102001 x103000 x103001 x103002)) else (none))) else (none))) else (none)) else (none)) else (none)) else (none)) else (none)) else (none)) else (none)))))))))
def galoislaw15_FinitefieldField.j1 : Nat → List Int → List Int → Bool → Int → List Int → List Int → List Int → List Int → Option (Bool)
 | 0, _, _, _, _, _, _, _, _ => none
 | k + 1, x11, x13, x163, x102000, x102001, x103000, x103001, x103002 => if x163 = true then (none) else ((finitefield_Mul.f k x102000 x102001 x11 x103001).bind fun bt140 => ((finitefield_Mul.f k x102000 x102001 x103000 x13).bind fun bt144 => ((finitefield_Mul.f k x102000 x102001 x103002 x103000).bind fun bt148 => (if bt140.2 = 0 then (if bt144.2 = 0 then (if bt148.2 = 0 then ((galoisref09_Same.f k bt140.1 bt144.1).bind fun t152 => (if t152 = true then ((galoisref09_Same.f k bt148.1 x11).bind fun t153 => (galoislaw15_FinitefieldField.j2 k x11 (!t153) x102000 x102001 x103000 x103001 x103002)) else (none))) else (none)) else (none)) else (none)))))
def galoislaw15_FinitefieldField.j2 : Nat → List Int → Bool → Int → List Int → List Int → List Int → List Int → Option (Bool)
 | 0, _, _, _, _, _, _, _ => none
 | k + 1, x11, x210, x102000, x102001, x103000, x103001, x103002 => if x210 = true then (none) else (if (x103002.length : Int) = 0 then (some true) else ((finitefield_Div.f k x102000 x102001 x11 x103002).bind fun bt154 => ((finitefield_Inverse.f k x102000 x102001 x103002).bind fun bt158 => ((finitefield_Mul.f k x102000 x102001 bt158.1 x103002).bind fun bt162 => (if bt154.2 = 0 then (if bt158.2 = 0 then (if bt162.2 = 0 then ((galoisref09_Same.f k bt154.1 x103000).bind fun t166 => (if t166 = true then ((galoisref09_Same.f k bt162.1 (([1] : List Int))).bind fun t170 => (some t170)) else (none))) else (none)) else (none)) else (none))))))
end
def galoislaw15_FinitefieldField.f (k : Nat) (a0_0 : Int) (l0_1 : List Int) (l1_0 : List Int) (l1_1 : List Int) (l1_2 : List Int) : Option (Bool) := (galoislaw15_awake.f k).bind fun t103 => (if t103 = true then (if (l0_1.length : Int) > 9 then (galoislaw15_FinitefieldField.j0 k true a0_0 l0_1 l1_0 l1_1 l1_2) else ((galoisref15_Check.f k a0_0 l0_1).bind fun t104 => (if t104 = 0 then ((galoisref15_Member.f k a0_0 l0_1 l1_0).bind fun t105 => (if t105 = 0 then ((galoisref15_Member.f k a0_0 l0_1 l1_1).bind fun t106 => (if t106 = 0 then ((galoisref15_Member.f k a0_0 l0_1 l1_2).bind fun t107 => (galoislaw15_FinitefieldField.j0 k (t107 != 0) a0_0 l0_1 l1_0 l1_1 l1_2)) else (galoislaw15_FinitefieldField.j0 k true a0_0 l0_1 l1_0 l1_1 l1_2))) else (galoislaw15_FinitefieldField.j0 k true a0_0 l0_1 l1_0 l1_1 l1_2))) else (galoislaw15_FinitefieldField.j0 k true a0_0 l0_1 l1_0 l1_1 l1_2)))) else (galoislaw15_FinitefieldField.j0 k true a0_0 l0_1 l1_0 l1_1 l1_2))
theorem galoislaw15_FinitefieldField.mono_l : ∀ k, (∀ y0 y1 y2 y3 y4 y5, LeO (galoislaw15_FinitefieldField.j0 k y0 y1 y2 y3 y4 y5) (galoislaw15_FinitefieldField.j0 (k + 1) y0 y1 y2 y3 y4 y5)) ∧ (∀ y0 y1 y2 y3 y4 y5 y6 y7, LeO (galoislaw15_FinitefieldField.j1 k y0 y1 y2 y3 y4 y5 y6 y7) (galoislaw15_FinitefieldField.j1 (k + 1) y0 y1 y2 y3 y4 y5 y6 y7)) ∧ (∀ y0 y1 y2 y3 y4 y5 y6, LeO (galoislaw15_FinitefieldField.j2 k y0 y1 y2 y3 y4 y5 y6) (galoislaw15_FinitefieldField.j2 (k + 1) y0 y1 y2 y3 y4 y5 y6))
 | 0 => ⟨fun _ _ _ _ _ _ r h => by simp [galoislaw15_FinitefieldField.j0] at h, fun _ _ _ _ _ _ _ _ r h => by simp [galoislaw15_FinitefieldField.j1] at h, fun _ _ _ _ _ _ _ r h => by simp [galoislaw15_FinitefieldField.j2] at h⟩
 | k + 1 => by
  obtain ⟨ih0, ih1, ih2⟩ := galoislaw15_FinitefieldField.mono_l k
  refine ⟨?_, ?_, ?_⟩
  ·intro y0 y1 y2 y3 y4 y5
   unfold galoislaw15_FinitefieldField.j0
   with_reducible repeat' first | exact ih0 _ _ _ _ _ _ | exact ih1 _ _ _ _ _ _ _ _ | exact ih2 _ _ _ _ _ _ _ | exact finitefield_Add.mono _ _ _ _ _ | exact finitefield_Div.mono _ _ _ _ _ | exact finitefield_Inverse.mono _ _ _ _ | exact finitefield_Mul.mono _ _ _ _ _ | exact finitefield_Sub.mono _ _ _ _ _ | exact galoislaw15_awake.mono _ | exact galoisref09_Same.mono _ _ _ | exact galoisref15_Check.mono _ _ _ | exact galoisref15_Member.mono _ _ _ _ | exact LeO.refl _ | exact LeO.none _ | refine LeO.ite ?_ ?_ | refine LeO.bind ?_ (fun _ => ?_)
  ·intro y0 y1 y2 y3 y4 y5 y6 y7
   unfold galoislaw15_FinitefieldField.j1
   with_reducible repeat' first | exact ih0 _ _ _ _ _ _ | exact ih1 _ _ _ _ _ _ _ _ | exact ih2 _ _ _ _ _ _ _ | exact finitefield_Add.mono _ _ _ _ _ | exact finitefield_Div.mono _ _ _ _ _ | exact finitefield_Inverse.mono _ _ _ _ | exact finitefield_Mul.mono _ _ _ _ _ | exact finitefield_Sub.mono _ _ _ _ _ | exact galoislaw15_awake.mono _ | exact galoisref09_Same.mono _ _ _ | exact galoisref15_Check.mono _ _ _ | exact galoisref15_Member.mono _ _ _ _ | exact LeO.refl _ | exact LeO.none _ | refine LeO.ite ?_ ?_ | refine LeO.bind ?_ (fun _ => ?_)
  intro y0 y1 y2 y3 y4 y5 y6
  unfold galoislaw15_FinitefieldField.j2
  with_reducible repeat' first | exact ih0 _ _ _ _ _ _ | exact ih1 _ _ _ _ _ _ _ _ | exact ih2 _ _ _ _ _ _ _ | exact finitefield_Add.mono _ _ _ _ _ | exact finitefield_Div.mono _ _ _ _ _ | exact finitefield_Inverse.mono _ _ _ _ | exact finitefield_Mul.mono _ _ _ _ _ | exact finitefield_Sub.mono _ _ _ _ _ | exact galoislaw15_awake.mono _ | exact galoisref09_Same.mono _ _ _ | exact galoisref15_Check.mono _ _ _ | exact galoisref15_Member.mono _ _ _ _ | exact LeO.refl _ | exact LeO.none _ | refine LeO.ite ?_ ?_ | refine LeO.bind ?_ (fun _ => ?_)
theorem galoislaw15_FinitefieldField.mono : ∀ a0 a1 a2 a3 a4 k, LeO (galoislaw15_FinitefieldField.f k a0 a1 a2 a3 a4) (galoislaw15_FinitefieldField.f (k + 1) a0 a1 a2 a3 a4) := by
 intro a0 a1 a2 a3 a4 k
 obtain ⟨ih0, ih1, ih2⟩ := galoislaw15_FinitefieldField.mono_l k
 unfold galoislaw15_FinitefieldField.f
 with_reducible repeat' first | exact ih0 _ _ _ _ _ _ | exact ih1 _ _ _ _ _ _ _ _ | exact ih2 _ _ _ _ _ _ _ | exact finitefield_Add.mono _ _ _ _ _ | exact finitefield_Div.mono _ _ _ _ _ | exact finitefield_Inverse.mono _ _ _ _ | exact finitefield_Mul.mono _ _ _ _ _ | exact finitefield_Sub.mono _ _ _ _ _ | exact galoislaw15_awake.mono _ | exact galoisref09_Same.mono _ _ _ | exact galoisref15_Check.mono _ _ _ | exact galoisref15_Member.mono _ _ _ _ | exact LeO.refl _ | exact LeO.none _ | refine LeO.ite ?_ ?_ | refine LeO.bind ?_ (fun _ => ?_)
theorem galoislaw15_FinitefieldField.calls (k : Nat) (a0_0 : Int) (A0_1 : Option Addr) (c0_1 : Nat) (l0_1 : List Int) (A1_0 : Option Addr) (c1_0 : Nat) (l1_0 : List Int) (A1_1 : Option Addr) (c1_1 : Nat) (l1_1 : List Int) (A1_2 : Option Addr) (c1_2 : Nat) (l1_2 : List Int) (r : Bool) (w : World) (hr0_1 : Kd.C (Kd.int .i64) w A0_1 l0_1.length l0_1) (hc0_1 : l0_1.length ≤ c0_1) (hr1_0 : Kd.C (Kd.int .i64) w A1_0 l1_0.length l1_0) (hc1_0 : l1_0.length ≤ c1_0) (hr1_1 : Kd.C (Kd.int .i64) w A1_1 l1_1.length l1_1) (hc1_1 : l1_1.length ≤ c1_1) (hr1_2 : Kd.C (Kd.int .i64) w A1_2 l1_2.length l1_2) (hc1_2 : l1_2.length ≤ c1_2) (h : galoislaw15_FinitefieldField.f k a0_0 l0_1 l1_0 l1_1 l1_2 = some r) :
  Calls Try.prog 6 #[.agg #[.int .i64 a0_0, .slice A0_1 l0_1.length c0_1], .agg #[.slice A1_0 l1_0.length c1_0, .slice A1_1 l1_1.length c1_1, .slice A1_2 l1_2.length c1_2]] w fun e w' => e = .returned (.bool r) ∧ Below w.heap.size w w' := by
 have hu33 := Try.underlying33
 have hu48 := Try.underlying48
 have HR0_1 := Aside0.mk hr0_1
 have HC0_1 := Aside0.mk hc0_1
 clear hr0_1 hc0_1
 have HR1_0 := Aside0.mk hr1_0
 have HC1_0 := Aside0.mk hc1_0
 clear hr1_0 hc1_0
 have HR1_1 := Aside0.mk hr1_1
 have HC1_1 := Aside0.mk hc1_1
 clear hr1_1 hc1_1
 have HR1_2 := Aside0.mk hr1_2
 have HC1_2 := Aside0.mk hc1_2
 clear hr1_2 hc1_2
 have HB := Aside0.mk (Below.refl w.heap.size w)
 have H := h; clear h; unfold galoislaw15_FinitefieldField.f at H
 have HC3 := Aside0.mk H
 clear H
 go_enter Try.func6, Try.ntmps6
 go_upto_region 1 with (first | ((with_reducible refine gate_dst (N := 2) rfl ?_); (try (refine gate_guard (by rfl) ?_; dsimp only)); refine zb 2 #[.int .i64 a0_0, .slice A0_1 l0_1.length c0_1] 33 ?_; intro gb101 hg w4 hbox hb; have BK101 := Aside0.mk (hbox); have GW101 := zg HB hg; have GE101 := GW101; replace HB := zBb HB hb; clear hb hbox hg) | ((with_reducible refine gate_dst (N := 3) rfl ?_); (try (refine gate_guard (by rfl) ?_; dsimp only)); refine zb 3 #[.slice A1_0 l1_0.length c1_0, .slice A1_1 l1_1.length c1_1, .slice A1_2 l1_2.length c1_2] 48 ?_; intro gb102 hg w5 hbox hb; have BK102 := Aside0.mk (hbox); have GW102 := zg HB hg; have GE102 := GW102; replace HB := zBb HB hb; have NB101_102 := Aside0.mk ((by rw [hg]; exact Nat.ne_of_lt (blk_lt (zK BK101.out)) : gb101 ≠ gb102)); have NB102_101 := Aside0.mk ((by rw [hg]; exact Nat.ne_of_gt (blk_lt (zK BK101.out)) : gb102 ≠ gb101)); replace BK101 := zKb BK101 hb; clear hb hbox hg))
 (try simp only [Act.put, List.setIfInBounds_toArray, List.set_cons_zero, List.set_cons_succ])
 go_cut [58] (fun v58 wc => ∃ (kq : Nat) (x58_2 : Bool), v58 = .bool x58_2 ∧ Aside0 (galoislaw15_FinitefieldField.j0 kq x58_2 a0_0 l0_1 l1_0 l1_1 l1_2 = some r) ∧ Aside0 (kq ≤ k) ∧ Aside0 (wc.heap[gb101]? = some (.cells #[.int .i64 a0_0, (.slice A0_1 l0_1.length c0_1)] 33 (0, 0))) ∧ Aside0 (wc.heap[gb102]? = some (.cells #[(.slice A1_0 l1_0.length c1_0), (.slice A1_1 l1_1.length c1_1), (.slice A1_2 l1_2.length c1_2)] 48 (0, 0))) ∧ Aside0 (Below w.heap.size w wc))
 case first => as_aux_lemma =>
  have H := HC3.out
  clear HC3
  obtain ⟨t103, A6, H⟩ := zO H
  by_cases c7 : t103 = true
  rotate_left
  ·replace c7 := Bool.eq_false_iff.mpr c7
   subst c7
   rw [if_neg Bool.false_ne_true] at H
   have H' := Aside0.mk H
   clear H
   go_wp2_with (first | ((with_reducible refine gate_callee (f := 9) rfl ?_); refine zG (some 25) Try.func9 #[] ?_; (with_reducible refine (galoislaw15_awake.calls k  false _ A6.out).mono ?_); rintro e w53 ⟨rfl, hb⟩; refine ⟨_, rfl, ?_⟩; replace BK101 := zKb BK101 hb; replace BK102 := zKb BK102 hb; replace HB := zBb HB hb; (try clear hb)))
   go_meet
   case rel => exact ⟨_, (true), zX, H', ⟨by first | omega | exact Nat.le_refl _⟩, ⟨zK BK101.out⟩, ⟨zK BK102.out⟩, ⟨zT⟩⟩
  subst c7
  rw [if_pos rfl] at H
  by_cases c8 : (l0_1.length : Int) > 9
  ·rw [if_pos c8] at H
   have c8b0 : decide (9 < (l0_1.length : Int)) = true := decide_eq_true c8
   have c8b1 : decide (9 < l0_1.length) = true := decide_eq_true (by omega)
   clear c8
   (first | rw [c8b0] | (simp only [i64_w, i32_w]; rw [c8b0]) | skip)
   have H' := Aside0.mk H
   clear H
   go_wp2_with (first | ((with_reducible refine gate_callee (f := 9) rfl ?_); refine zG (some 25) Try.func9 #[] ?_; (with_reducible refine (galoislaw15_awake.calls k  true _ A6.out).mono ?_); rintro e w9 ⟨rfl, hb⟩; refine ⟨_, rfl, ?_⟩; replace BK101 := zKb BK101 hb; replace BK102 := zKb BK102 hb; replace HB := zBb HB hb; (try clear hb); have hnb10 := NB101_102.out; have hnc10 := NB102_101.out; have hcz11_0 := zc BK101 0; have hcz11_1 := zc BK101 1; have hfz11_0 := blk_frozen BK101.out 0; have hfz11_1 := blk_frozen BK101.out 1))
   go_meet
   case rel => exact ⟨_, (true), zX, H', ⟨by first | omega | exact Nat.le_refl _⟩, ⟨zK BK101.out⟩, ⟨zK BK102.out⟩, ⟨zT⟩⟩
  rw [if_neg c8] at H
  have c8b0 : decide (9 < (l0_1.length : Int)) = false := decide_eq_false c8
  have c8b1 : decide (9 < l0_1.length) = false := decide_eq_false (by omega)
  clear c8
  (first | rw [c8b0] | (simp only [i64_w, i32_w]; rw [c8b0]) | skip)
  obtain ⟨t104, A12, H⟩ := zO H
  by_cases c13 : t104 = 0
  rotate_left
  ·rw [if_neg c13] at H
   obtain ⟨c13b0, c13b1⟩ := zU c13
   have H' := Aside0.mk H
   clear H
   go_wp2_with (first | ((with_reducible refine gate_callee (f := 9) rfl ?_); refine zG (some 25) Try.func9 #[] ?_; (with_reducible refine (galoislaw15_awake.calls k  true _ A6.out).mono ?_); rintro e w49 ⟨rfl, hb⟩; refine ⟨_, rfl, ?_⟩; replace BK101 := zKb BK101 hb; replace BK102 := zKb BK102 hb; replace HB := zBb HB hb; (try clear hb); have hnb50 := NB101_102.out; have hnc50 := NB102_101.out; have hcz51_0 := zc BK101 0; have hcz51_1 := zc BK101 1; have hfz51_0 := blk_frozen BK101.out 0; have hfz51_1 := blk_frozen BK101.out 1) | (go_at_call 24; (with_reducible refine (galoisref15_Check.calls k a0_0 _ _ l0_1 t104 _ (zC (Kd.C_below HR0_1.out HB.out)) HC0_1.out A12.out).mono ?_); rintro e w52 ⟨rfl, hb⟩; replace BK101 := zKb BK101 hb; replace BK102 := zKb BK102 hb; replace HB := zBb HB hb; (try clear hb)))
   go_meet
   case rel => exact ⟨_, (true), zX, H', ⟨by first | omega | exact Nat.le_refl _⟩, ⟨zK BK101.out⟩, ⟨zK BK102.out⟩, ⟨zT⟩⟩
  rw [if_pos c13] at H
  obtain ⟨c13b0, c13b1⟩ := zE c13; clear c13
  obtain ⟨t105, A14, H⟩ := zO H
  by_cases c15 : t105 = 0
  rotate_left
  ·rw [if_neg c15] at H
   obtain ⟨c15b0, c15b1⟩ := zU c15
   have H' := Aside0.mk H
   clear H
   go_wp2_with (first | ((with_reducible refine gate_callee (f := 9) rfl ?_); refine zG (some 25) Try.func9 #[] ?_; (with_reducible refine (galoislaw15_awake.calls k  true _ A6.out).mono ?_); rintro e w42 ⟨rfl, hb⟩; refine ⟨_, rfl, ?_⟩; replace BK101 := zKb BK101 hb; replace BK102 := zKb BK102 hb; replace HB := zBb HB hb; (try clear hb); have hnb43 := NB101_102.out; have hnc43 := NB102_101.out; have hcz44_0 := zc BK101 0; have hcz44_1 := zc BK101 1; have hfz44_0 := blk_frozen BK101.out 0; have hfz44_1 := blk_frozen BK101.out 1) | (go_at_call 24; (with_reducible refine (galoisref15_Check.calls k a0_0 _ _ l0_1 t104 _ (zC (Kd.C_below HR0_1.out HB.out)) HC0_1.out A12.out).mono ?_); rintro e w45 ⟨rfl, hb⟩; replace BK101 := zKb BK101 hb; replace BK102 := zKb BK102 hb; replace HB := zBb HB hb; (try clear hb); have hcz46_0 := zc BK101 0; have hcz46_1 := zc BK101 1; have hfz46_0 := blk_frozen BK101.out 0; have hfz46_1 := blk_frozen BK101.out 1; have hcz47_0 := zc BK102 0; have hcz47_1 := zc BK102 1; have hcz47_2 := zc BK102 2; have hfz47_0 := blk_frozen BK102.out 0; have hfz47_1 := blk_frozen BK102.out 1; have hfz47_2 := blk_frozen BK102.out 2) | (go_at_call 31; (with_reducible refine (galoisref15_Member.calls k a0_0 _ _ l0_1 _ _ l1_0 t105 _ (zC (Kd.C_below HR0_1.out HB.out)) HC0_1.out (zC (Kd.C_below HR1_0.out HB.out)) HC1_0.out A14.out).mono ?_); rintro e w48 ⟨rfl, hb⟩; replace BK101 := zKb BK101 hb; replace BK102 := zKb BK102 hb; replace HB := zBb HB hb; (try clear hb)))
   go_meet
   case rel => exact ⟨_, (true), zX, H', ⟨by first | omega | exact Nat.le_refl _⟩, ⟨zK BK101.out⟩, ⟨zK BK102.out⟩, ⟨zT⟩⟩
  rw [if_pos c15] at H
  obtain ⟨c15b0, c15b1⟩ := zE c15; clear c15
  obtain ⟨t106, A16, H⟩ := zO H
  by_cases c17 : t106 = 0
  rotate_left
  ·rw [if_neg c17] at H
   obtain ⟨c17b0, c17b1⟩ := zU c17
   have H' := Aside0.mk H
   clear H
   go_wp2_with (first | ((with_reducible refine gate_callee (f := 9) rfl ?_); refine zG (some 25) Try.func9 #[] ?_; (with_reducible refine (galoislaw15_awake.calls k  true _ A6.out).mono ?_); rintro e w32 ⟨rfl, hb⟩; refine ⟨_, rfl, ?_⟩; replace BK101 := zKb BK101 hb; replace BK102 := zKb BK102 hb; replace HB := zBb HB hb; (try clear hb); have hnb33 := NB101_102.out; have hnc33 := NB102_101.out; have hcz34_0 := zc BK101 0; have hcz34_1 := zc BK101 1; have hfz34_0 := blk_frozen BK101.out 0; have hfz34_1 := blk_frozen BK101.out 1) | (go_at_call 24; (with_reducible refine (galoisref15_Check.calls k a0_0 _ _ l0_1 t104 _ (zC (Kd.C_below HR0_1.out HB.out)) HC0_1.out A12.out).mono ?_); rintro e w35 ⟨rfl, hb⟩; replace BK101 := zKb BK101 hb; replace BK102 := zKb BK102 hb; replace HB := zBb HB hb; (try clear hb); have hcz36_0 := zc BK101 0; have hcz36_1 := zc BK101 1; have hfz36_0 := blk_frozen BK101.out 0; have hfz36_1 := blk_frozen BK101.out 1; have hcz37_0 := zc BK102 0; have hcz37_1 := zc BK102 1; have hcz37_2 := zc BK102 2; have hfz37_0 := blk_frozen BK102.out 0; have hfz37_1 := blk_frozen BK102.out 1; have hfz37_2 := blk_frozen BK102.out 2) | (go_at_call 31; (with_reducible refine (galoisref15_Member.calls k a0_0 _ _ l0_1 _ _ l1_0 t105 _ (zC (Kd.C_below HR0_1.out HB.out)) HC0_1.out (zC (Kd.C_below HR1_0.out HB.out)) HC1_0.out A14.out).mono ?_); rintro e w38 ⟨rfl, hb⟩; replace BK101 := zKb BK101 hb; replace BK102 := zKb BK102 hb; replace HB := zBb HB hb; (try clear hb); have hcz39_0 := zc BK101 0; have hcz39_1 := zc BK101 1; have hfz39_0 := blk_frozen BK101.out 0; have hfz39_1 := blk_frozen BK101.out 1; have hcz40_0 := zc BK102 0; have hcz40_1 := zc BK102 1; have hcz40_2 := zc BK102 2; have hfz40_0 := blk_frozen BK102.out 0; have hfz40_1 := blk_frozen BK102.out 1; have hfz40_2 := blk_frozen BK102.out 2) | (go_at_call 31; (with_reducible refine (galoisref15_Member.calls k a0_0 _ _ l0_1 _ _ l1_1 t106 _ (zC (Kd.C_below HR0_1.out HB.out)) HC0_1.out (zC (Kd.C_below HR1_1.out HB.out)) HC1_1.out A16.out).mono ?_); rintro e w41 ⟨rfl, hb⟩; replace BK101 := zKb BK101 hb; replace BK102 := zKb BK102 hb; replace HB := zBb HB hb; (try clear hb)))
   go_meet
   case rel => exact ⟨_, (true), zX, H', ⟨by first | omega | exact Nat.le_refl _⟩, ⟨zK BK101.out⟩, ⟨zK BK102.out⟩, ⟨zT⟩⟩
  rw [if_pos c17] at H
  obtain ⟨c17b0, c17b1⟩ := zE c17; clear c17
  obtain ⟨t107, A18, H⟩ := zO H
  have H' := Aside0.mk H
  clear H
  go_wp2_with (first | ((with_reducible refine gate_callee (f := 9) rfl ?_); refine zG (some 25) Try.func9 #[] ?_; (with_reducible refine (galoislaw15_awake.calls k  true _ A6.out).mono ?_); rintro e w19 ⟨rfl, hb⟩; refine ⟨_, rfl, ?_⟩; replace BK101 := zKb BK101 hb; replace BK102 := zKb BK102 hb; replace HB := zBb HB hb; (try clear hb); have hnb20 := NB101_102.out; have hnc20 := NB102_101.out; have hcz21_0 := zc BK101 0; have hcz21_1 := zc BK101 1; have hfz21_0 := blk_frozen BK101.out 0; have hfz21_1 := blk_frozen BK101.out 1) | (go_at_call 24; (with_reducible refine (galoisref15_Check.calls k a0_0 _ _ l0_1 t104 _ (zC (Kd.C_below HR0_1.out HB.out)) HC0_1.out A12.out).mono ?_); rintro e w22 ⟨rfl, hb⟩; replace BK101 := zKb BK101 hb; replace BK102 := zKb BK102 hb; replace HB := zBb HB hb; (try clear hb); have hcz23_0 := zc BK101 0; have hcz23_1 := zc BK101 1; have hfz23_0 := blk_frozen BK101.out 0; have hfz23_1 := blk_frozen BK101.out 1; have hcz24_0 := zc BK102 0; have hcz24_1 := zc BK102 1; have hcz24_2 := zc BK102 2; have hfz24_0 := blk_frozen BK102.out 0; have hfz24_1 := blk_frozen BK102.out 1; have hfz24_2 := blk_frozen BK102.out 2) | (go_at_call 31; (with_reducible refine (galoisref15_Member.calls k a0_0 _ _ l0_1 _ _ l1_0 t105 _ (zC (Kd.C_below HR0_1.out HB.out)) HC0_1.out (zC (Kd.C_below HR1_0.out HB.out)) HC1_0.out A14.out).mono ?_); rintro e w25 ⟨rfl, hb⟩; replace BK101 := zKb BK101 hb; replace BK102 := zKb BK102 hb; replace HB := zBb HB hb; (try clear hb); have hcz26_0 := zc BK101 0; have hcz26_1 := zc BK101 1; have hfz26_0 := blk_frozen BK101.out 0; have hfz26_1 := blk_frozen BK101.out 1; have hcz27_0 := zc BK102 0; have hcz27_1 := zc BK102 1; have hcz27_2 := zc BK102 2; have hfz27_0 := blk_frozen BK102.out 0; have hfz27_1 := blk_frozen BK102.out 1; have hfz27_2 := blk_frozen BK102.out 2) | (go_at_call 31; (with_reducible refine (galoisref15_Member.calls k a0_0 _ _ l0_1 _ _ l1_1 t106 _ (zC (Kd.C_below HR0_1.out HB.out)) HC0_1.out (zC (Kd.C_below HR1_1.out HB.out)) HC1_1.out A16.out).mono ?_); rintro e w28 ⟨rfl, hb⟩; replace BK101 := zKb BK101 hb; replace BK102 := zKb BK102 hb; replace HB := zBb HB hb; (try clear hb); have hcz29_0 := zc BK101 0; have hcz29_1 := zc BK101 1; have hfz29_0 := blk_frozen BK101.out 0; have hfz29_1 := blk_frozen BK101.out 1; have hcz30_0 := zc BK102 0; have hcz30_1 := zc BK102 1; have hcz30_2 := zc BK102 2; have hfz30_0 := blk_frozen BK102.out 0; have hfz30_1 := blk_frozen BK102.out 1; have hfz30_2 := blk_frozen BK102.out 2) | (go_at_call 31; (with_reducible refine (galoisref15_Member.calls k a0_0 _ _ l0_1 _ _ l1_2 t107 _ (zC (Kd.C_below HR0_1.out HB.out)) HC0_1.out (zC (Kd.C_below HR1_2.out HB.out)) HC1_2.out A18.out).mono ?_); rintro e w31 ⟨rfl, hb⟩; replace BK101 := zKb BK101 hb; replace BK102 := zKb BK102 hb; replace HB := zBb HB hb; (try clear hb)))
  go_meet
  case rel => exact ⟨_, ((t107 != 0)), zX, H', ⟨by first | omega | exact Nat.le_refl _⟩, ⟨zK BK101.out⟩, ⟨zK BK102.out⟩, ⟨zT⟩⟩
 case rest => as_aux_lemma =>
  clear HC3
  try clear c1; try clear c2; try clear p2; try clear c3; try clear c4; try clear c5; try clear c6; try clear c7; try clear c8; try clear c8b0; try clear c8b1; try clear c9; try clear c10; try clear c13; try clear c13b0; try clear c13b1; try clear c15; try clear c15b0; try clear c15b1; try clear c17; try clear c17b0; try clear c17b1; try clear c20; try clear c33; try clear c43; try clear c50; try clear hcz11_0; try clear hcz11_1; try clear hcz21_0; try clear hcz21_1; try clear hcz23_0; try clear hcz23_1; try clear hcz24_0; try clear hcz24_1; try clear hcz24_2; try clear hcz26_0; try clear hcz26_1; try clear hcz27_0; try clear hcz27_1; try clear hcz27_2; try clear hcz29_0; try clear hcz29_1; try clear hcz30_0; try clear hcz30_1; try clear hcz30_2; try clear hcz34_0; try clear hcz34_1; try clear hcz36_0; try clear hcz36_1; try clear hcz37_0; try clear hcz37_1; try clear hcz37_2; try clear hcz39_0; try clear hcz39_1; try clear hcz40_0; try clear hcz40_1; try clear hcz40_2; try clear hcz44_0; try clear hcz44_1; try clear hcz46_0; try clear hcz46_1; try clear hcz47_0; try clear hcz47_1; try clear hcz47_2; try clear hcz51_0; try clear hcz51_1; try clear hfz11_0; try clear hfz11_1; try clear hfz21_0; try clear hfz21_1; try clear hfz23_0; try clear hfz23_1; try clear hfz24_0; try clear hfz24_1; try clear hfz24_2; try clear hfz26_0; try clear hfz26_1; try clear hfz27_0; try clear hfz27_1; try clear hfz27_2; try clear hfz29_0; try clear hfz29_1; try clear hfz30_0; try clear hfz30_1; try clear hfz30_2; try clear hfz34_0; try clear hfz34_1; try clear hfz36_0; try clear hfz36_1; try clear hfz37_0; try clear hfz37_1; try clear hfz37_2; try clear hfz39_0; try clear hfz39_1; try clear hfz40_0; try clear hfz40_1; try clear hfz40_2; try clear hfz44_0; try clear hfz44_1; try clear hfz46_0; try clear hfz46_1; try clear hfz47_0; try clear hfz47_1; try clear hfz47_2; try clear hfz51_0; try clear hfz51_1
  obtain ⟨kq, x58_2, rfl, HA, HJ2, BK101, BK102, HB⟩ := hcut
  cases kq with
  | zero => exact absurd HA.out (by simp [galoislaw15_FinitefieldField.j0])
  | succ kj2 =>
   have H := HA.out
   clear HA
   simp only [galoislaw15_FinitefieldField.j0] at H
   by_cases c54 : x58_2 = true
   ·subst c54
    rw [if_pos rfl] at H
    obtain ⟨t108, A55, H⟩ := zO H
    obtain rfl := Option.some.inj H
    go_wp2_with (first | ((with_reducible refine gate_callee (f := 9) rfl ?_); refine zG (some 59) Try.func9 #[] ?_; (with_reducible refine (galoislaw15_awake.calls kj2  t108 _ A55.out).mono ?_); rintro e w56 ⟨rfl, hb⟩; refine ⟨_, rfl, ?_⟩; replace BK101 := zKb BK101 hb; replace BK102 := zKb BK102 hb; replace HB := zBb HB hb; (try clear hb)))
    go_ret
    exact ⟨zQ, zT⟩
   replace c54 := Bool.eq_false_iff.mpr c54
   subst c54
   rw [if_neg Bool.false_ne_true] at H
   obtain ⟨⟨t109, t112⟩, A57, H⟩ := zO H; try dsimp only at H
   obtain ⟨⟨t113, t116⟩, A58, H⟩ := zO H; try dsimp only at H
   obtain ⟨⟨t117, t120⟩, A59, H⟩ := zO H; try dsimp only at H
   obtain ⟨⟨t121, t124⟩, A60, H⟩ := zO H; try dsimp only at H
   obtain ⟨⟨t125, t128⟩, A61, H⟩ := zO H; try dsimp only at H
   obtain ⟨⟨t129, t132⟩, A62, H⟩ := zO H; try dsimp only at H
   obtain ⟨⟨t133, t136⟩, A63, H⟩ := zO H; try dsimp only at H
   have HC64 := Aside0.mk H
   clear H
   have hnb65 := NB101_102.out
   have hnc65 := NB102_101.out
   have hcz66_0 := zc BK101 0
   have hcz66_1 := zc BK101 1
   have hfz66_0 := blk_frozen BK101.out 0
   have hfz66_1 := blk_frozen BK101.out 1
   have hcz67_0 := zc BK102 0
   have hcz67_1 := zc BK102 1
   have hcz67_2 := zc BK102 2
   have hfz67_0 := blk_frozen BK102.out 0
   have hfz67_1 := blk_frozen BK102.out 1
   have hfz67_2 := blk_frozen BK102.out 2
   go_upto_region 10 with (first | ((with_reducible refine gate_callee (f := 21) rfl ?_); refine zG (some 66) Try.func21 #[.agg #[.int .i64 a0_0, .slice A0_1 l0_1.length c0_1], .slice A1_0 l1_0.length c1_0, .slice A1_1 l1_1.length c1_1] ?_; (with_reducible refine (finitefield_Add.calls kj2 a0_0 _ _ l0_1 (fun k_ => k_ < w.heap.size) _ _ l1_0 (fun k_ => k_ < w.heap.size) _ _ l1_1 t109 t112 _ (zC (Kd.C_below HR0_1.out HB.out)) HC0_1.out (Kd.V_mk HC1_0.out (Kd.F_below (Kd.C_F (Kd.heap_int .i64) HR1_0.out) (zT))) (Kd.V_mk HC1_1.out (Kd.F_below (Kd.C_F (Kd.heap_int .i64) HR1_1.out) (zT))) A57.out).mono ?_); rintro e w68 ⟨v110, rfl, ho0, hb⟩; refine ⟨_, rfl, ?_⟩; have HO111 := Aside0.mk (Kd.V_lower (Kd.V_mono (ok' := fun k_ => k_ ≠ gb101 ∧ k_ ≠ gb102) ho0 (fun k_ hk_ => ⟨Or.elim hk_ (fun hs_ => Or.elim hs_ (fun hs_ => fun e_ => Nat.not_le.2 hs_ (by rw [e_]; exact GW101.out)) (fun hs_ => fun e_ => Nat.not_le.2 hs_ (by rw [e_]; exact GW101.out))) (fun hn_ => (Kd.freshB (zK BK101.out) k_ hn_)), Or.elim hk_ (fun hs_ => Or.elim hs_ (fun hs_ => fun e_ => Nat.not_le.2 hs_ (by rw [e_]; exact GW102.out)) (fun hs_ => fun e_ => Nat.not_le.2 hs_ (by rw [e_]; exact GW102.out))) (fun hn_ => (Kd.freshB (zK BK102.out) k_ hn_))⟩)) (zS HB)); replace BK101 := zKb BK101 hb; replace BK102 := zKb BK102 hb; replace HB := zBb HB hb; (try clear hb); (try clear ho0); have hcz69_0 := zc BK101 0; have hcz69_1 := zc BK101 1; have hfz69_0 := blk_frozen BK101.out 0; have hfz69_1 := blk_frozen BK101.out 1; have hcz70_0 := zc BK102 0; have hcz70_1 := zc BK102 1; have hcz70_2 := zc BK102 2; have hfz70_0 := blk_frozen BK102.out 0; have hfz70_1 := blk_frozen BK102.out 1; have hfz70_2 := blk_frozen BK102.out 2) | ((with_reducible refine gate_callee (f := 21) rfl ?_); refine zG (some 75) Try.func21 #[.agg #[.int .i64 a0_0, .slice A0_1 l0_1.length c0_1], .slice A1_1 l1_1.length c1_1, .slice A1_0 l1_0.length c1_0] ?_; (with_reducible refine (finitefield_Add.calls kj2 a0_0 _ _ l0_1 (fun k_ => k_ < w.heap.size) _ _ l1_1 (fun k_ => k_ < w.heap.size) _ _ l1_0 t113 t116 _ (zC (Kd.C_below HR0_1.out HB.out)) HC0_1.out (Kd.V_mk HC1_1.out (Kd.F_below (Kd.C_F (Kd.heap_int .i64) HR1_1.out) (zT))) (Kd.V_mk HC1_0.out (Kd.F_below (Kd.C_F (Kd.heap_int .i64) HR1_0.out) (zT))) A58.out).mono ?_); rintro e w71 ⟨v114, rfl, ho0, hb⟩; refine ⟨_, rfl, ?_⟩; replace HO111 := zVb HO111 hb; have HO115 := Aside0.mk (Kd.V_lower (Kd.V_mono (ok' := fun k_ => k_ ≠ gb101 ∧ k_ ≠ gb102) ho0 (fun k_ hk_ => ⟨Or.elim hk_ (fun hs_ => Or.elim hs_ (fun hs_ => fun e_ => Nat.not_le.2 hs_ (by rw [e_]; exact GW101.out)) (fun hs_ => fun e_ => Nat.not_le.2 hs_ (by rw [e_]; exact GW101.out))) (fun hn_ => (Kd.freshB (zK BK101.out) k_ hn_)), Or.elim hk_ (fun hs_ => Or.elim hs_ (fun hs_ => fun e_ => Nat.not_le.2 hs_ (by rw [e_]; exact GW102.out)) (fun hs_ => fun e_ => Nat.not_le.2 hs_ (by rw [e_]; exact GW102.out))) (fun hn_ => (Kd.freshB (zK BK102.out) k_ hn_))⟩)) (zS HB)); replace BK101 := zKb BK101 hb; replace BK102 := zKb BK102 hb; replace HB := zBb HB hb; (try clear hb); (try clear ho0); have hcz72_0 := zc BK101 0; have hcz72_1 := zc BK101 1; have hfz72_0 := blk_frozen BK101.out 0; have hfz72_1 := blk_frozen BK101.out 1; have hcz73_0 := zc BK102 0; have hcz73_1 := zc BK102 1; have hcz73_2 := zc BK102 2; have hfz73_0 := blk_frozen BK102.out 0; have hfz73_1 := blk_frozen BK102.out 1; have hfz73_2 := blk_frozen BK102.out 2; obtain ⟨Ao74, co74, eo74⟩ := Kd.V_slice HO111.out; subst eo74) | ((with_reducible refine gate_callee (f := 18) rfl ?_); refine zG (some 83) Try.func18 #[.agg #[.int .i64 a0_0, .slice A0_1 l0_1.length c0_1], .slice Ao74 t109.length co74, .slice A1_2 l1_2.length c1_2] ?_; (with_reducible refine (finitefield_Mul.calls kj2 a0_0 _ _ l0_1 (fun k_ => (k_ ≠ gb101 ∧ k_ ≠ gb102)) _ _ t109 (fun k_ => k_ < w.heap.size) _ _ l1_2 t117 t120 _ (zC (Kd.C_below HR0_1.out HB.out)) HC0_1.out HO111.out (Kd.V_mk HC1_2.out (Kd.F_below (Kd.C_F (Kd.heap_int .i64) HR1_2.out) (zT))) A59.out).mono ?_); rintro e w75 ⟨v118, rfl, ho0, hb⟩; refine ⟨_, rfl, ?_⟩; replace HO111 := zVb HO111 hb; replace HO115 := zVb HO115 hb; have HO119 := Aside0.mk (Kd.V_lower (Kd.V_mono (ok' := fun k_ => k_ ≠ gb101 ∧ k_ ≠ gb102) ho0 (fun k_ hk_ => ⟨Or.elim hk_ (fun hs_ => Or.elim hs_ (fun hs_ => hs_.1) (fun hs_ => fun e_ => Nat.not_le.2 hs_ (by rw [e_]; exact GW101.out))) (fun hn_ => (Kd.freshB (zK BK101.out) k_ hn_)), Or.elim hk_ (fun hs_ => Or.elim hs_ (fun hs_ => hs_.2) (fun hs_ => fun e_ => Nat.not_le.2 hs_ (by rw [e_]; exact GW102.out))) (fun hn_ => (Kd.freshB (zK BK102.out) k_ hn_))⟩)) (zS HB)); replace BK101 := zKb BK101 hb; replace BK102 := zKb BK102 hb; replace HB := zBb HB hb; (try clear hb); (try clear ho0); have hcz76_0 := zc BK101 0; have hcz76_1 := zc BK101 1; have hfz76_0 := blk_frozen BK101.out 0; have hfz76_1 := blk_frozen BK101.out 1; have hcz77_0 := zc BK102 0; have hcz77_1 := zc BK102 1; have hcz77_2 := zc BK102 2; have hfz77_0 := blk_frozen BK102.out 0; have hfz77_1 := blk_frozen BK102.out 1; have hfz77_2 := blk_frozen BK102.out 2) | ((with_reducible refine gate_callee (f := 18) rfl ?_); refine zG (some 92) Try.func18 #[.agg #[.int .i64 a0_0, .slice A0_1 l0_1.length c0_1], .slice A1_0 l1_0.length c1_0, .slice A1_2 l1_2.length c1_2] ?_; (with_reducible refine (finitefield_Mul.calls kj2 a0_0 _ _ l0_1 (fun k_ => k_ < w.heap.size) _ _ l1_0 (fun k_ => k_ < w.heap.size) _ _ l1_2 t121 t124 _ (zC (Kd.C_below HR0_1.out HB.out)) HC0_1.out (Kd.V_mk HC1_0.out (Kd.F_below (Kd.C_F (Kd.heap_int .i64) HR1_0.out) (zT))) (Kd.V_mk HC1_2.out (Kd.F_below (Kd.C_F (Kd.heap_int .i64) HR1_2.out) (zT))) A60.out).mono ?_); rintro e w78 ⟨v122, rfl, ho0, hb⟩; refine ⟨_, rfl, ?_⟩; replace HO111 := zVb HO111 hb; replace HO115 := zVb HO115 hb; replace HO119 := zVb HO119 hb; have HO123 := Aside0.mk (Kd.V_lower (Kd.V_mono (ok' := fun k_ => k_ ≠ gb101 ∧ k_ ≠ gb102) ho0 (fun k_ hk_ => ⟨Or.elim hk_ (fun hs_ => Or.elim hs_ (fun hs_ => fun e_ => Nat.not_le.2 hs_ (by rw [e_]; exact GW101.out)) (fun hs_ => fun e_ => Nat.not_le.2 hs_ (by rw [e_]; exact GW101.out))) (fun hn_ => (Kd.freshB (zK BK101.out) k_ hn_)), Or.elim hk_ (fun hs_ => Or.elim hs_ (fun hs_ => fun e_ => Nat.not_le.2 hs_ (by rw [e_]; exact GW102.out)) (fun hs_ => fun e_ => Nat.not_le.2 hs_ (by rw [e_]; exact GW102.out))) (fun hn_ => (Kd.freshB (zK BK102.out) k_ hn_))⟩)) (zS HB)); replace BK101 := zKb BK101 hb; replace BK102 := zKb BK102 hb; replace HB := zBb HB hb; (try clear hb); (try clear ho0); have hcz79_0 := zc BK101 0; have hcz79_1 := zc BK101 1; have hfz79_0 := blk_frozen BK101.out 0; have hfz79_1 := blk_frozen BK101.out 1; have hcz80_0 := zc BK102 0; have hcz80_1 := zc BK102 1; have hcz80_2 := zc BK102 2; have hfz80_0 := blk_frozen BK102.out 0; have hfz80_1 := blk_frozen BK102.out 1; have hfz80_2 := blk_frozen BK102.out 2) | ((with_reducible refine gate_callee (f := 18) rfl ?_); refine zG (some 101) Try.func18 #[.agg #[.int .i64 a0_0, .slice A0_1 l0_1.length c0_1], .slice A1_2 l1_2.length c1_2, .slice A1_1 l1_1.length c1_1] ?_; (with_reducible refine (finitefield_Mul.calls kj2 a0_0 _ _ l0_1 (fun k_ => k_ < w.heap.size) _ _ l1_2 (fun k_ => k_ < w.heap.size) _ _ l1_1 t125 t128 _ (zC (Kd.C_below HR0_1.out HB.out)) HC0_1.out (Kd.V_mk HC1_2.out (Kd.F_below (Kd.C_F (Kd.heap_int .i64) HR1_2.out) (zT))) (Kd.V_mk HC1_1.out (Kd.F_below (Kd.C_F (Kd.heap_int .i64) HR1_1.out) (zT))) A61.out).mono ?_); rintro e w81 ⟨v126, rfl, ho0, hb⟩; refine ⟨_, rfl, ?_⟩; replace HO111 := zVb HO111 hb; replace HO115 := zVb HO115 hb; replace HO119 := zVb HO119 hb; replace HO123 := zVb HO123 hb; have HO127 := Aside0.mk (Kd.V_lower (Kd.V_mono (ok' := fun k_ => k_ ≠ gb101 ∧ k_ ≠ gb102) ho0 (fun k_ hk_ => ⟨Or.elim hk_ (fun hs_ => Or.elim hs_ (fun hs_ => fun e_ => Nat.not_le.2 hs_ (by rw [e_]; exact GW101.out)) (fun hs_ => fun e_ => Nat.not_le.2 hs_ (by rw [e_]; exact GW101.out))) (fun hn_ => (Kd.freshB (zK BK101.out) k_ hn_)), Or.elim hk_ (fun hs_ => Or.elim hs_ (fun hs_ => fun e_ => Nat.not_le.2 hs_ (by rw [e_]; exact GW102.out)) (fun hs_ => fun e_ => Nat.not_le.2 hs_ (by rw [e_]; exact GW102.out))) (fun hn_ => (Kd.freshB (zK BK102.out) k_ hn_))⟩)) (zS HB)); replace BK101 := zKb BK101 hb; replace BK102 := zKb BK102 hb; replace HB := zBb HB hb; (try clear hb); (try clear ho0); have hcz82_0 := zc BK101 0; have hcz82_1 := zc BK101 1; have hfz82_0 := blk_frozen BK101.out 0; have hfz82_1 := blk_frozen BK101.out 1; obtain ⟨Ao83, co83, eo83⟩ := Kd.V_slice HO123.out; subst eo83; obtain ⟨Ao84, co84, eo84⟩ := Kd.V_slice HO127.out; subst eo84) | ((with_reducible refine gate_callee (f := 21) rfl ?_); refine zG (some 108) Try.func21 #[.agg #[.int .i64 a0_0, .slice A0_1 l0_1.length c0_1], .slice Ao83 t121.length co83, .slice Ao84 t125.length co84] ?_; (with_reducible refine (finitefield_Add.calls kj2 a0_0 _ _ l0_1 (fun k_ => (k_ ≠ gb101 ∧ k_ ≠ gb102)) _ _ t121 (fun k_ => (k_ ≠ gb101 ∧ k_ ≠ gb102)) _ _ t125 t129 t132 _ (zC (Kd.C_below HR0_1.out HB.out)) HC0_1.out HO123.out HO127.out A62.out).mono ?_); rintro e w85 ⟨v130, rfl, ho0, hb⟩; refine ⟨_, rfl, ?_⟩; replace HO111 := zVb HO111 hb; replace HO115 := zVb HO115 hb; replace HO119 := zVb HO119 hb; replace HO123 := zVb HO123 hb; replace HO127 := zVb HO127 hb; have HO131 := zWV (fun k_ => k_ ≠ gb101 ∧ k_ ≠ gb102) ho0 HB (fun k_ hk_ => ⟨Or.elim hk_ (fun hs_ => Or.elim hs_ (fun hs_ => hs_.1) (fun hs_ => hs_.1)) (fun hn_ => (Kd.freshB (zK BK101.out) k_ hn_)), Or.elim hk_ (fun hs_ => Or.elim hs_ (fun hs_ => hs_.2) (fun hs_ => hs_.2)) (fun hn_ => (Kd.freshB (zK BK102.out) k_ hn_))⟩); replace BK101 := zKb BK101 hb; replace BK102 := zKb BK102 hb; replace HB := zBb HB hb; (try clear hb); (try clear ho0); have hcz86_0 := zc BK101 0; have hcz86_1 := zc BK101 1; have hfz86_0 := blk_frozen BK101.out 0; have hfz86_1 := blk_frozen BK101.out 1; have hcz87_0 := zc BK102 0; have hcz87_1 := zc BK102 1; have hcz87_2 := zc BK102 2; have hfz87_0 := blk_frozen BK102.out 0; have hfz87_1 := blk_frozen BK102.out 1; have hfz87_2 := blk_frozen BK102.out 2) | ((with_reducible refine gate_callee (f := 22) rfl ?_); refine zG (some 116) Try.func22 #[.agg #[.int .i64 a0_0, .slice A0_1 l0_1.length c0_1], .slice Ao74 t109.length co74, .slice A1_1 l1_1.length c1_1] ?_; (with_reducible refine (finitefield_Sub.calls kj2 a0_0 _ _ l0_1 (fun k_ => (k_ ≠ gb101 ∧ k_ ≠ gb102)) _ _ t109 (fun k_ => k_ < w.heap.size) _ _ l1_1 t133 t136 _ (zC (Kd.C_below HR0_1.out HB.out)) HC0_1.out HO111.out (Kd.V_mk HC1_1.out (Kd.F_below (Kd.C_F (Kd.heap_int .i64) HR1_1.out) (zT))) A63.out).mono ?_); rintro e w88 ⟨v134, rfl, ho0, hb⟩; refine ⟨_, rfl, ?_⟩; replace HO111 := zVb HO111 hb; replace HO115 := zVb HO115 hb; replace HO119 := zVb HO119 hb; replace HO123 := zVb HO123 hb; replace HO127 := zVb HO127 hb; replace HO131 := zVb HO131 hb; have HO135 := Aside0.mk (Kd.V_lower (Kd.V_mono (ok' := fun k_ => k_ ≠ gb101 ∧ k_ ≠ gb102) ho0 (fun k_ hk_ => ⟨Or.elim hk_ (fun hs_ => Or.elim hs_ (fun hs_ => hs_.1) (fun hs_ => fun e_ => Nat.not_le.2 hs_ (by rw [e_]; exact GW101.out))) (fun hn_ => (Kd.freshB (zK BK101.out) k_ hn_)), Or.elim hk_ (fun hs_ => Or.elim hs_ (fun hs_ => hs_.2) (fun hs_ => fun e_ => Nat.not_le.2 hs_ (by rw [e_]; exact GW102.out))) (fun hn_ => (Kd.freshB (zK BK102.out) k_ hn_))⟩)) (zS HB)); replace BK101 := zKb BK101 hb; replace BK102 := zKb BK102 hb; replace HB := zBb HB hb; (try clear hb); (try clear ho0)))
   (try simp only [Act.put, List.setIfInBounds_toArray, List.set_cons_zero, List.set_cons_succ])
   go_cut [163] (fun v163 wc => ∃ (kq : Nat) (x163_63 : Bool), v163 = .bool x163_63 ∧ Aside0 (galoislaw15_FinitefieldField.j1 kq t121 t125 x163_63 a0_0 l0_1 l1_0 l1_1 l1_2 = some r) ∧ Aside0 (kq ≤ kj2) ∧ Aside0 (Kd.V (Kd.int .i64) 3 wc w.heap.size (fun k_ => k_ ≠ gb101 ∧ k_ ≠ gb102) (.slice Ao83 t121.length co83) t121) ∧ Aside0 (Kd.V (Kd.int .i64) 3 wc w.heap.size (fun k_ => k_ ≠ gb101 ∧ k_ ≠ gb102) (.slice Ao84 t125.length co84) t125) ∧ Aside0 (wc.heap[gb101]? = some (.cells #[.int .i64 a0_0, (.slice A0_1 l0_1.length c0_1)] 33 (0, 0))) ∧ Aside0 (wc.heap[gb102]? = some (.cells #[(.slice A1_0 l1_0.length c1_0), (.slice A1_1 l1_1.length c1_1), (.slice A1_2 l1_2.length c1_2)] 48 (0, 0))) ∧ Aside0 (Below w.heap.size w wc))
   case first => as_aux_lemma =>
    have H := HC64.out
    clear HC64
    by_cases c89 : t112 = 0
    rotate_left
    ·rw [if_neg c89] at H
     exact absurd H (by simp)
    rw [if_pos c89] at H
    obtain ⟨c89b0, c89b1⟩ := zE c89; clear c89
    (first | rw [c89b0] | (simp only [i64_w, i32_w]; rw [c89b0]) | skip)
    by_cases c90 : t116 = 0
    rotate_left
    ·rw [if_neg c90] at H
     exact absurd H (by simp)
    rw [if_pos c90] at H
    obtain ⟨c90b0, c90b1⟩ := zE c90; clear c90
    by_cases c91 : t120 = 0
    rotate_left
    ·rw [if_neg c91] at H
     exact absurd H (by simp)
    rw [if_pos c91] at H
    obtain ⟨c91b0, c91b1⟩ := zE c91; clear c91
    by_cases c92 : t124 = 0
    rotate_left
    ·rw [if_neg c92] at H
     exact absurd H (by simp)
    rw [if_pos c92] at H
    obtain ⟨c92b0, c92b1⟩ := zE c92; clear c92
    by_cases c93 : t128 = 0
    rotate_left
    ·rw [if_neg c93] at H
     exact absurd H (by simp)
    rw [if_pos c93] at H
    obtain ⟨c93b0, c93b1⟩ := zE c93; clear c93
    by_cases c94 : t132 = 0
    rotate_left
    ·rw [if_neg c94] at H
     exact absurd H (by simp)
    rw [if_pos c94] at H
    obtain ⟨c94b0, c94b1⟩ := zE c94; clear c94
    by_cases c95 : t136 = 0
    rotate_left
    ·rw [if_neg c95] at H
     exact absurd H (by simp)
    rw [if_pos c95] at H
    obtain ⟨c95b0, c95b1⟩ := zE c95; clear c95
    obtain ⟨t137, A96, H⟩ := zO H
    by_cases c97 : t137 = true
    rotate_left
    ·replace c97 := Bool.eq_false_iff.mpr c97
     subst c97
     have H1 : (none) = some r := by rw [if_neg (show ¬ (false = true) by decide)] at H; exact H
     exact absurd H1 (by simp)
    subst c97
    rw [if_pos rfl] at H
    obtain ⟨t138, A98, H⟩ := zO H
    by_cases c99 : t138 = true
    rotate_left
    ·replace c99 := Bool.eq_false_iff.mpr c99
     subst c99
     have H1 : (none) = some r := by rw [if_neg (show ¬ (false = true) by decide)] at H; exact H
     exact absurd H1 (by simp)
    subst c99
    rw [if_pos rfl] at H
    obtain ⟨t139, A100, H⟩ := zO H
    have H' := Aside0.mk H
    clear H
    obtain ⟨Ao101, co101, eo101⟩ := Kd.V_slice HO115.out
    subst eo101
    go_wp2_with (first | (go_at_call 19; (with_reducible refine (galoisref09_Same.calls kj2 _ _ t109 _ _ t113 true _ (zC ((Kd.V_reads' HO111.out).2.2)) ((Kd.V_reads' HO111.out).2.1) (zC ((Kd.V_reads' HO115.out).2.2)) ((Kd.V_reads' HO115.out).2.1) A96.out).mono ?_); rintro e w' ⟨rfl, ⟨nd, rfl⟩⟩; obtain ⟨Ao102, co102, eo102⟩ := Kd.V_slice HO119.out; subst eo102; obtain ⟨Ao103, co103, eo103⟩ := Kd.V_slice HO131.out; subst eo103) | (go_at_call 19; (with_reducible refine (galoisref09_Same.calls kj2 _ _ t117 _ _ t129 true _ (zC ((Kd.V_reads' HO119.out).2.2)) ((Kd.V_reads' HO119.out).2.1) (zC ((Kd.V_reads' HO131.out).2.2)) ((Kd.V_reads' HO131.out).2.1) A98.out).mono ?_); rintro e w' ⟨rfl, ⟨nd, rfl⟩⟩; have hnb104 := NB102_101.out; have hnc104 := NB101_102.out; have hcz105_0 := zc BK102 0; have hcz105_1 := zc BK102 1; have hcz105_2 := zc BK102 2; have hfz105_0 := blk_frozen BK102.out 0; have hfz105_1 := blk_frozen BK102.out 1; have hfz105_2 := blk_frozen BK102.out 2; obtain ⟨Ao106, co106, eo106⟩ := Kd.V_slice HO135.out; subst eo106) | (go_at_call 19; (with_reducible refine (galoisref09_Same.calls kj2 _ _ t133 _ _ l1_0 t139 _ (zC ((Kd.V_reads' HO135.out).2.2)) ((Kd.V_reads' HO135.out).2.1) (zC (Kd.C_below HR1_0.out (zT))) HC1_0.out A100.out).mono ?_); rintro e w' ⟨rfl, ⟨nd, rfl⟩⟩))
    go_meet
    case rel => exact ⟨_, (!t139), zX, H', ⟨by have := HJ2.out; first | omega | exact Nat.le_refl _⟩, ⟨zV HO123.out⟩, ⟨zV HO127.out⟩, ⟨zK BK101.out⟩, ⟨zK BK102.out⟩, ⟨zT⟩⟩
   case rest => as_aux_lemma =>
    clear HC64
    try clear c1; try clear c2; try clear p2; try clear c3; try clear c4; try clear c5; try clear c6; try clear c7; try clear c8; try clear c8b0; try clear c8b1; try clear c9; try clear c10; try clear c13; try clear c13b0; try clear c13b1; try clear c15; try clear c15b0; try clear c15b1; try clear c17; try clear c17b0; try clear c17b1; try clear c18; try clear c20; try clear c21; try clear c22; try clear c33; try clear c43; try clear c50; try clear c54; try clear c65; try clear c89; try clear c89b0; try clear c89b1; try clear c90; try clear c90b0; try clear c90b1; try clear c91; try clear c91b0; try clear c91b1; try clear c92; try clear c92b0; try clear c92b1; try clear c93; try clear c93b0; try clear c93b1; try clear c94; try clear c94b0; try clear c94b1; try clear c95; try clear c95b0; try clear c95b1; try clear c97; try clear c99; try clear c104; try clear hcz105_0; try clear hcz105_1; try clear hcz105_2; try clear hcz11_0; try clear hcz11_1; try clear hcz21_0; try clear hcz21_1; try clear hcz23_0; try clear hcz23_1; try clear hcz24_0; try clear hcz24_1; try clear hcz24_2; try clear hcz26_0; try clear hcz26_1; try clear hcz27_0; try clear hcz27_1; try clear hcz27_2; try clear hcz29_0; try clear hcz29_1; try clear hcz30_0; try clear hcz30_1; try clear hcz30_2; try clear hcz34_0; try clear hcz34_1; try clear hcz36_0; try clear hcz36_1; try clear hcz37_0; try clear hcz37_1; try clear hcz37_2; try clear hcz39_0; try clear hcz39_1; try clear hcz40_0; try clear hcz40_1; try clear hcz40_2; try clear hcz44_0; try clear hcz44_1; try clear hcz46_0; try clear hcz46_1; try clear hcz47_0; try clear hcz47_1; try clear hcz47_2; try clear hcz51_0; try clear hcz51_1; try clear hcz66_0; try clear hcz66_1; try clear hcz67_0; try clear hcz67_1; try clear hcz67_2; try clear hcz69_0; try clear hcz69_1; try clear hcz70_0; try clear hcz70_1; try clear hcz70_2; try clear hcz72_0; try clear hcz72_1; try clear hcz73_0; try clear hcz73_1; try clear hcz73_2; try clear hcz76_0; try clear hcz76_1; try clear hcz77_0; try clear hcz77_1; try clear hcz77_2; try clear hcz79_0; try clear hcz79_1; try clear hcz80_0; try clear hcz80_1; try clear hcz80_2; try clear hcz82_0; try clear hcz82_1; try clear hcz86_0; try clear hcz86_1; try clear hcz87_0; try clear hcz87_1; try clear hcz87_2; try clear hfz105_0; try clear hfz105_1; try clear hfz105_2; try clear hfz11_0; try clear hfz11_1; try clear hfz21_0; try clear hfz21_1; try clear hfz23_0; try clear hfz23_1; try clear hfz24_0; try clear hfz24_1; try clear hfz24_2; try clear hfz26_0; try clear hfz26_1; try clear hfz27_0; try clear hfz27_1; try clear hfz27_2; try clear hfz29_0; try clear hfz29_1; try clear hfz30_0; try clear hfz30_1; try clear hfz30_2; try clear hfz34_0; try clear hfz34_1; try clear hfz36_0; try clear hfz36_1; try clear hfz37_0; try clear hfz37_1; try clear hfz37_2; try clear hfz39_0; try clear hfz39_1; try clear hfz40_0; try clear hfz40_1; try clear hfz40_2; try clear hfz44_0; try clear hfz44_1; try clear hfz46_0; try clear hfz46_1; try clear hfz47_0; try clear hfz47_1; try clear hfz47_2; try clear hfz51_0; try clear hfz51_1; try clear hfz66_0; try clear hfz66_1; try clear hfz67_0; try clear hfz67_1; try clear hfz67_2; try clear hfz69_0; try clear hfz69_1; try clear hfz70_0; try clear hfz70_1; try clear hfz70_2; try clear hfz72_0; try clear hfz72_1; try clear hfz73_0; try clear hfz73_1; try clear hfz73_2; try clear hfz76_0; try clear hfz76_1; try clear hfz77_0; try clear hfz77_1; try clear hfz77_2; try clear hfz79_0; try clear hfz79_1; try clear hfz80_0; try clear hfz80_1; try clear hfz80_2; try clear hfz82_0; try clear hfz82_1; try clear hfz86_0; try clear hfz86_1; try clear hfz87_0; try clear hfz87_1; try clear hfz87_2; try clear p2
    obtain ⟨kq, x163_63, rfl, HA, HJ63, HO_11, HO_13, BK101, BK102, HB⟩ := hcut
    cases kq with
    | zero => exact absurd HA.out (by simp [galoislaw15_FinitefieldField.j1])
    | succ kj63 =>
     have H := HA.out
     clear HA
     simp only [galoislaw15_FinitefieldField.j1] at H
     by_cases c111 : x163_63 = true
     ·subst c111
      rw [if_pos rfl] at H
      exact absurd H (by simp)
     replace c111 := Bool.eq_false_iff.mpr c111
     subst c111
     rw [if_neg Bool.false_ne_true] at H
     obtain ⟨⟨t140, t143⟩, A112, H⟩ := zO H; try dsimp only at H
     obtain ⟨⟨t144, t147⟩, A113, H⟩ := zO H; try dsimp only at H
     obtain ⟨⟨t148, t151⟩, A114, H⟩ := zO H; try dsimp only at H
     have HC115 := Aside0.mk H
     clear H
     have hnb116 := NB101_102.out
     have hnc116 := NB102_101.out
     have hcz117_0 := zc BK101 0
     have hcz117_1 := zc BK101 1
     have hfz117_0 := blk_frozen BK101.out 0
     have hfz117_1 := blk_frozen BK101.out 1
     have hcz118_0 := zc BK102 0
     have hcz118_1 := zc BK102 1
     have hcz118_2 := zc BK102 2
     have hfz118_0 := blk_frozen BK102.out 0
     have hfz118_1 := blk_frozen BK102.out 1
     have hfz118_2 := blk_frozen BK102.out 2
     go_upto_region 15 with (first | ((with_reducible refine gate_callee (f := 18) rfl ?_); refine zG (some 169) Try.func18 #[.agg #[.int .i64 a0_0, .slice A0_1 l0_1.length c0_1], .slice Ao83 t121.length co83, .slice A1_1 l1_1.length c1_1] ?_; (with_reducible refine (finitefield_Mul.calls kj63 a0_0 _ _ l0_1 (fun k_ => (k_ ≠ gb101 ∧ k_ ≠ gb102)) _ _ t121 (fun k_ => k_ < w.heap.size) _ _ l1_1 t140 t143 _ (zC (Kd.C_below HR0_1.out HB.out)) HC0_1.out HO_11.out (Kd.V_mk HC1_1.out (Kd.F_below (Kd.C_F (Kd.heap_int .i64) HR1_1.out) (zT))) A112.out).mono ?_); rintro e w119 ⟨v141, rfl, ho0, hb⟩; refine ⟨_, rfl, ?_⟩; replace HO_11 := zVb HO_11 hb; replace HO_13 := zVb HO_13 hb; have HO142 := Aside0.mk (Kd.V_lower (Kd.V_mono (ok' := fun k_ => k_ ≠ gb101 ∧ k_ ≠ gb102) ho0 (fun k_ hk_ => ⟨Or.elim hk_ (fun hs_ => Or.elim hs_ (fun hs_ => hs_.1) (fun hs_ => fun e_ => Nat.not_le.2 hs_ (by rw [e_]; exact GW101.out))) (fun hn_ => (Kd.freshB (zK BK101.out) k_ hn_)), Or.elim hk_ (fun hs_ => Or.elim hs_ (fun hs_ => hs_.2) (fun hs_ => fun e_ => Nat.not_le.2 hs_ (by rw [e_]; exact GW102.out))) (fun hn_ => (Kd.freshB (zK BK102.out) k_ hn_))⟩)) (zS HB)); replace BK101 := zKb BK101 hb; replace BK102 := zKb BK102 hb; replace HB := zBb HB hb; (try clear hb); (try clear ho0); have hcz120_0 := zc BK101 0; have hcz120_1 := zc BK101 1; have hfz120_0 := blk_frozen BK101.out 0; have hfz120_1 := blk_frozen BK101.out 1; have hcz121_0 := zc BK102 0; have hcz121_1 := zc BK102 1; have hcz121_2 := zc BK102 2; have hfz121_0 := blk_frozen BK102.out 0; have hfz121_1 := blk_frozen BK102.out 1; have hfz121_2 := blk_frozen BK102.out 2) | ((with_reducible refine gate_callee (f := 18) rfl ?_); refine zG (some 177) Try.func18 #[.agg #[.int .i64 a0_0, .slice A0_1 l0_1.length c0_1], .slice A1_0 l1_0.length c1_0, .slice Ao84 t125.length co84] ?_; (with_reducible refine (finitefield_Mul.calls kj63 a0_0 _ _ l0_1 (fun k_ => k_ < w.heap.size) _ _ l1_0 (fun k_ => (k_ ≠ gb101 ∧ k_ ≠ gb102)) _ _ t125 t144 t147 _ (zC (Kd.C_below HR0_1.out HB.out)) HC0_1.out (Kd.V_mk HC1_0.out (Kd.F_below (Kd.C_F (Kd.heap_int .i64) HR1_0.out) (zT))) HO_13.out A113.out).mono ?_); rintro e w122 ⟨v145, rfl, ho0, hb⟩; refine ⟨_, rfl, ?_⟩; replace HO_11 := zVb HO_11 hb; replace HO_13 := zVb HO_13 hb; replace HO142 := zVb HO142 hb; have HO146 := Aside0.mk (Kd.V_lower (Kd.V_mono (ok' := fun k_ => k_ ≠ gb101 ∧ k_ ≠ gb102) ho0 (fun k_ hk_ => ⟨Or.elim hk_ (fun hs_ => Or.elim hs_ (fun hs_ => fun e_ => Nat.not_le.2 hs_ (by rw [e_]; exact GW101.out)) (fun hs_ => hs_.1)) (fun hn_ => (Kd.freshB (zK BK101.out) k_ hn_)), Or.elim hk_ (fun hs_ => Or.elim hs_ (fun hs_ => fun e_ => Nat.not_le.2 hs_ (by rw [e_]; exact GW102.out)) (fun hs_ => hs_.2)) (fun hn_ => (Kd.freshB (zK BK102.out) k_ hn_))⟩)) (zS HB)); replace BK101 := zKb BK101 hb; replace BK102 := zKb BK102 hb; replace HB := zBb HB hb; (try clear hb); (try clear ho0); have hcz123_0 := zc BK101 0; have hcz123_1 := zc BK101 1; have hfz123_0 := blk_frozen BK101.out 0; have hfz123_1 := blk_frozen BK101.out 1; have hcz124_0 := zc BK102 0; have hcz124_1 := zc BK102 1; have hcz124_2 := zc BK102 2; have hfz124_0 := blk_frozen BK102.out 0; have hfz124_1 := blk_frozen BK102.out 1; have hfz124_2 := blk_frozen BK102.out 2) | ((with_reducible refine gate_callee (f := 18) rfl ?_); refine zG (some 186) Try.func18 #[.agg #[.int .i64 a0_0, .slice A0_1 l0_1.length c0_1], .slice A1_2 l1_2.length c1_2, .slice A1_0 l1_0.length c1_0] ?_; (with_reducible refine (finitefield_Mul.calls kj63 a0_0 _ _ l0_1 (fun k_ => k_ < w.heap.size) _ _ l1_2 (fun k_ => k_ < w.heap.size) _ _ l1_0 t148 t151 _ (zC (Kd.C_below HR0_1.out HB.out)) HC0_1.out (Kd.V_mk HC1_2.out (Kd.F_below (Kd.C_F (Kd.heap_int .i64) HR1_2.out) (zT))) (Kd.V_mk HC1_0.out (Kd.F_below (Kd.C_F (Kd.heap_int .i64) HR1_0.out) (zT))) A114.out).mono ?_); rintro e w125 ⟨v149, rfl, ho0, hb⟩; refine ⟨_, rfl, ?_⟩; replace HO_11 := zVb HO_11 hb; replace HO_13 := zVb HO_13 hb; replace HO142 := zVb HO142 hb; replace HO146 := zVb HO146 hb; have HO150 := Aside0.mk (Kd.V_lower (Kd.V_mono (ok' := fun k_ => k_ ≠ gb101 ∧ k_ ≠ gb102) ho0 (fun k_ hk_ => ⟨Or.elim hk_ (fun hs_ => Or.elim hs_ (fun hs_ => fun e_ => Nat.not_le.2 hs_ (by rw [e_]; exact GW101.out)) (fun hs_ => fun e_ => Nat.not_le.2 hs_ (by rw [e_]; exact GW101.out))) (fun hn_ => (Kd.freshB (zK BK101.out) k_ hn_)), Or.elim hk_ (fun hs_ => Or.elim hs_ (fun hs_ => fun e_ => Nat.not_le.2 hs_ (by rw [e_]; exact GW102.out)) (fun hs_ => fun e_ => Nat.not_le.2 hs_ (by rw [e_]; exact GW102.out))) (fun hn_ => (Kd.freshB (zK BK102.out) k_ hn_))⟩)) (zS HB)); replace BK101 := zKb BK101 hb; replace BK102 := zKb BK102 hb; replace HB := zBb HB hb; (try clear hb); (try clear ho0)))
     (try simp only [Act.put, List.setIfInBounds_toArray, List.set_cons_zero, List.set_cons_succ])
     go_cut [210] (fun v210 wc => ∃ (kq : Nat) (x210_114 : Bool), v210 = .bool x210_114 ∧ Aside0 (galoislaw15_FinitefieldField.j2 kq t121 x210_114 a0_0 l0_1 l1_0 l1_1 l1_2 = some r) ∧ Aside0 (kq ≤ kj63) ∧ Aside0 (Kd.V (Kd.int .i64) 3 wc w.heap.size (fun k_ => k_ ≠ gb101 ∧ k_ ≠ gb102) (.slice Ao83 t121.length co83) t121) ∧ Aside0 (wc.heap[gb101]? = some (.cells #[.int .i64 a0_0, (.slice A0_1 l0_1.length c0_1)] 33 (0, 0))) ∧ Aside0 (wc.heap[gb102]? = some (.cells #[(.slice A1_0 l1_0.length c1_0), (.slice A1_1 l1_1.length c1_1), (.slice A1_2 l1_2.length c1_2)] 48 (0, 0))) ∧ Aside0 (Below w.heap.size w wc))
     case first => as_aux_lemma =>
      have H := HC115.out
      clear HC115
      by_cases c126 : t143 = 0
      rotate_left
      ·rw [if_neg c126] at H
       exact absurd H (by simp)
      rw [if_pos c126] at H
      obtain ⟨c126b0, c126b1⟩ := zE c126; clear c126
      (first | rw [c126b0] | (simp only [i64_w, i32_w]; rw [c126b0]) | skip)
      by_cases c127 : t147 = 0
      rotate_left
      ·rw [if_neg c127] at H
       exact absurd H (by simp)
      rw [if_pos c127] at H
      obtain ⟨c127b0, c127b1⟩ := zE c127; clear c127
      by_cases c128 : t151 = 0
      rotate_left
      ·rw [if_neg c128] at H
       exact absurd H (by simp)
      rw [if_pos c128] at H
      obtain ⟨c128b0, c128b1⟩ := zE c128; clear c128
      obtain ⟨t152, A129, H⟩ := zO H
      by_cases c130 : t152 = true
      rotate_left
      ·replace c130 := Bool.eq_false_iff.mpr c130
       subst c130
       have H1 : (none) = some r := by rw [if_neg (show ¬ (false = true) by decide)] at H; exact H
       exact absurd H1 (by simp)
      subst c130
      rw [if_pos rfl] at H
      obtain ⟨t153, A131, H⟩ := zO H
      have H' := Aside0.mk H
      clear H
      obtain ⟨Ao132, co132, eo132⟩ := Kd.V_slice HO142.out
      subst eo132
      obtain ⟨Ao133, co133, eo133⟩ := Kd.V_slice HO146.out
      subst eo133
      go_wp2_with (first | (go_at_call 19; (with_reducible refine (galoisref09_Same.calls kj63 _ _ t140 _ _ t144 true _ (zC ((Kd.V_reads' HO142.out).2.2)) ((Kd.V_reads' HO142.out).2.1) (zC ((Kd.V_reads' HO146.out).2.2)) ((Kd.V_reads' HO146.out).2.1) A129.out).mono ?_); rintro e w' ⟨rfl, ⟨nd, rfl⟩⟩; obtain ⟨Ao134, co134, eo134⟩ := Kd.V_slice HO150.out; subst eo134) | (go_at_call 19; (with_reducible refine (galoisref09_Same.calls kj63 _ _ t148 _ _ t121 t153 _ (zC ((Kd.V_reads' HO150.out).2.2)) ((Kd.V_reads' HO150.out).2.1) (zC ((Kd.V_reads' HO_11.out).2.2)) ((Kd.V_reads' HO_11.out).2.1) A131.out).mono ?_); rintro e w' ⟨rfl, ⟨nd, rfl⟩⟩))
      go_meet
      case rel => exact ⟨_, (!t153), zX, H', ⟨by have := HJ2.out; have := HJ63.out; first | omega | exact Nat.le_refl _⟩, ⟨zV HO_11.out⟩, ⟨zK BK101.out⟩, ⟨zK BK102.out⟩, ⟨zT⟩⟩
     case rest => as_aux_lemma =>
      clear HC115
      try clear c1; try clear c2; try clear p2; try clear c3; try clear c4; try clear c5; try clear c6; try clear c7; try clear c8; try clear c8b0; try clear c8b1; try clear c9; try clear c10; try clear c11; try clear c12; try clear c13; try clear c13b0; try clear c13b1; try clear c15; try clear c15b0; try clear c15b1; try clear c17; try clear c17b0; try clear c17b1; try clear c18; try clear c20; try clear c21; try clear c22; try clear c33; try clear c43; try clear c50; try clear c54; try clear c65; try clear c89; try clear c89b0; try clear c89b1; try clear c90; try clear c90b0; try clear c90b1; try clear c91; try clear c91b0; try clear c91b1; try clear c92; try clear c92b0; try clear c92b1; try clear c93; try clear c93b0; try clear c93b1; try clear c94; try clear c94b0; try clear c94b1; try clear c95; try clear c95b0; try clear c95b1; try clear c97; try clear c99; try clear c104; try clear c111; try clear c116; try clear c126; try clear c126b0; try clear c126b1; try clear c127; try clear c127b0; try clear c127b1; try clear c128; try clear c128b0; try clear c128b1; try clear c130; try clear hcz105_0; try clear hcz105_1; try clear hcz105_2; try clear hcz117_0; try clear hcz117_1; try clear hcz118_0; try clear hcz118_1; try clear hcz118_2; try clear hcz11_0; try clear hcz11_1; try clear hcz120_0; try clear hcz120_1; try clear hcz121_0; try clear hcz121_1; try clear hcz121_2; try clear hcz123_0; try clear hcz123_1; try clear hcz124_0; try clear hcz124_1; try clear hcz124_2; try clear hcz21_0; try clear hcz21_1; try clear hcz23_0; try clear hcz23_1; try clear hcz24_0; try clear hcz24_1; try clear hcz24_2; try clear hcz26_0; try clear hcz26_1; try clear hcz27_0; try clear hcz27_1; try clear hcz27_2; try clear hcz29_0; try clear hcz29_1; try clear hcz30_0; try clear hcz30_1; try clear hcz30_2; try clear hcz34_0; try clear hcz34_1; try clear hcz36_0; try clear hcz36_1; try clear hcz37_0; try clear hcz37_1; try clear hcz37_2; try clear hcz39_0; try clear hcz39_1; try clear hcz40_0; try clear hcz40_1; try clear hcz40_2; try clear hcz44_0; try clear hcz44_1; try clear hcz46_0; try clear hcz46_1; try clear hcz47_0; try clear hcz47_1; try clear hcz47_2; try clear hcz51_0; try clear hcz51_1; try clear hcz66_0; try clear hcz66_1; try clear hcz67_0; try clear hcz67_1; try clear hcz67_2; try clear hcz69_0; try clear hcz69_1; try clear hcz70_0; try clear hcz70_1; try clear hcz70_2; try clear hcz72_0; try clear hcz72_1; try clear hcz73_0; try clear hcz73_1; try clear hcz73_2; try clear hcz76_0; try clear hcz76_1; try clear hcz77_0; try clear hcz77_1; try clear hcz77_2; try clear hcz79_0; try clear hcz79_1; try clear hcz80_0; try clear hcz80_1; try clear hcz80_2; try clear hcz82_0; try clear hcz82_1; try clear hcz86_0; try clear hcz86_1; try clear hcz87_0; try clear hcz87_1; try clear hcz87_2; try clear hfz105_0; try clear hfz105_1; try clear hfz105_2; try clear hfz117_0; try clear hfz117_1; try clear hfz118_0; try clear hfz118_1; try clear hfz118_2; try clear hfz11_0; try clear hfz11_1; try clear hfz120_0; try clear hfz120_1; try clear hfz121_0; try clear hfz121_1; try clear hfz121_2; try clear hfz123_0; try clear hfz123_1; try clear hfz124_0; try clear hfz124_1; try clear hfz124_2; try clear hfz21_0; try clear hfz21_1; try clear hfz23_0; try clear hfz23_1; try clear hfz24_0; try clear hfz24_1; try clear hfz24_2; try clear hfz26_0; try clear hfz26_1; try clear hfz27_0; try clear hfz27_1; try clear hfz27_2; try clear hfz29_0; try clear hfz29_1; try clear hfz30_0; try clear hfz30_1; try clear hfz30_2; try clear hfz34_0; try clear hfz34_1; try clear hfz36_0; try clear hfz36_1; try clear hfz37_0; try clear hfz37_1; try clear hfz37_2; try clear hfz39_0; try clear hfz39_1; try clear hfz40_0; try clear hfz40_1; try clear hfz40_2; try clear hfz44_0; try clear hfz44_1; try clear hfz46_0; try clear hfz46_1; try clear hfz47_0; try clear hfz47_1; try clear hfz47_2; try clear hfz51_0; try clear hfz51_1; try clear hfz66_0; try clear hfz66_1; try clear hfz67_0; try clear hfz67_1; try clear hfz67_2; try clear hfz69_0; try clear hfz69_1; try clear hfz70_0; try clear hfz70_1; try clear hfz70_2; try clear hfz72_0; try clear hfz72_1; try clear hfz73_0; try clear hfz73_1; try clear hfz73_2; try clear hfz76_0; try clear hfz76_1; try clear hfz77_0; try clear hfz77_1; try clear hfz77_2; try clear hfz79_0; try clear hfz79_1; try clear hfz80_0; try clear hfz80_1; try clear hfz80_2; try clear hfz82_0; try clear hfz82_1; try clear hfz86_0; try clear hfz86_1; try clear hfz87_0; try clear hfz87_1; try clear hfz87_2; try clear p2
      obtain ⟨kq, x210_114, rfl, HA, HJ114, HO_11, BK101, BK102, HB⟩ := hcut
      cases kq with
      | zero => exact absurd HA.out (by simp [galoislaw15_FinitefieldField.j2])
      | succ kj114 =>
       have H := HA.out
       clear HA
       simp only [galoislaw15_FinitefieldField.j2] at H
       by_cases c137 : x210_114 = true
       ·subst c137
        rw [if_pos rfl] at H
        exact absurd H (by simp)
       replace c137 := Bool.eq_false_iff.mpr c137
       subst c137
       rw [if_neg Bool.false_ne_true] at H
       by_cases c138 : (l1_2.length : Int) = 0
       ·rw [if_pos c138] at H
        obtain ⟨c138b0, c138b1⟩ := zE c138; clear c138
        obtain rfl := Option.some.inj H
        have hnb139 := NB102_101.out
        have hnc139 := NB101_102.out
        have hcz140_0 := zc BK102 0
        have hcz140_1 := zc BK102 1
        have hcz140_2 := zc BK102 2
        have hfz140_0 := blk_frozen BK102.out 0
        have hfz140_1 := blk_frozen BK102.out 1
        have hfz140_2 := blk_frozen BK102.out 2
        go_wp2
        go_ret
        exact ⟨zQ, zT⟩
       rw [if_neg c138] at H
       obtain ⟨c138b0, c138b1⟩ := zU c138
       have c138b2 : ¬ (l1_2 = []) := fun h_ => c138 (by rw [h_]; rfl)
       obtain ⟨⟨t154, t157⟩, A141, H⟩ := zO H; try dsimp only at H
       obtain ⟨⟨t158, t161⟩, A142, H⟩ := zO H; try dsimp only at H
       obtain ⟨⟨t162, t165⟩, A143, H⟩ := zO H; try dsimp only at H
       by_cases c144 : t157 = 0
       rotate_left
       ·rw [if_neg c144] at H
        exact absurd H (by simp)
       rw [if_pos c144] at H
       obtain ⟨c144b0, c144b1⟩ := zE c144; clear c144
       by_cases c145 : t161 = 0
       rotate_left
       ·rw [if_neg c145] at H
        exact absurd H (by simp)
       rw [if_pos c145] at H
       obtain ⟨c145b0, c145b1⟩ := zE c145; clear c145
       by_cases c146 : t165 = 0
       rotate_left
       ·rw [if_neg c146] at H
        exact absurd H (by simp)
       rw [if_pos c146] at H
       obtain ⟨c146b0, c146b1⟩ := zE c146; clear c146
       obtain ⟨t166, A147, H⟩ := zO H
       by_cases c148 : t166 = true
       rotate_left
       ·replace c148 := Bool.eq_false_iff.mpr c148
        subst c148
        rw [if_neg Bool.false_ne_true] at H
        exact absurd H (by simp)
       subst c148
       rw [if_pos rfl] at H
       obtain ⟨y167, Ny167⟩ := zA ((([1] : List Int)) : List Int); rw [← Ny167.out] at H
       obtain ⟨t170, A149, H⟩ := zO H
       obtain rfl := Option.some.inj H
       have hnb150 := NB102_101.out
       have hnc150 := NB101_102.out
       have hcz151_0 := zc BK102 0
       have hcz151_1 := zc BK102 1
       have hcz151_2 := zc BK102 2
       have hfz151_0 := blk_frozen BK102.out 0
       have hfz151_1 := blk_frozen BK102.out 1
       have hfz151_2 := blk_frozen BK102.out 2
       have hcz152_0 := zc BK101 0
       have hcz152_1 := zc BK101 1
       have hfz152_0 := blk_frozen BK101.out 0
       have hfz152_1 := blk_frozen BK101.out 1
       go_wp2_with (first | ((with_reducible refine gate_callee (f := 32) rfl ?_); refine zG (some 220) Try.func32 #[.agg #[.int .i64 a0_0, .slice A0_1 l0_1.length c0_1], .slice Ao83 t121.length co83, .slice A1_2 l1_2.length c1_2] ?_; (with_reducible refine (finitefield_Div.calls kj114 a0_0 (fun k_ => k_ < w.heap.size) _ _ l0_1 (fun k_ => (k_ ≠ gb101 ∧ k_ ≠ gb102)) _ _ t121 (fun k_ => k_ < w.heap.size) _ _ l1_2 t154 t157 _ (Kd.V_mk HC0_1.out (Kd.F_below (Kd.C_F (Kd.heap_int .i64) HR0_1.out) (zT))) HO_11.out (Kd.V_mk HC1_2.out (Kd.F_below (Kd.C_F (Kd.heap_int .i64) HR1_2.out) (zT))) A141.out).mono ?_); rintro e w153 ⟨v155, rfl, ho0, hb⟩; refine ⟨_, rfl, ?_⟩; replace HO_11 := zVb HO_11 hb; have HO156 := Aside0.mk (Kd.V_lower (Kd.V_mono (ok' := fun k_ => k_ ≠ gb101 ∧ k_ ≠ gb102) ho0 (fun k_ hk_ => ⟨Or.elim hk_ (fun hs_ => Or.elim hs_ (fun hs_ => fun e_ => Nat.not_le.2 hs_ (by rw [e_]; exact GW101.out)) (fun hs_ => Or.elim hs_ (fun hs_ => hs_.1) (fun hs_ => fun e_ => Nat.not_le.2 hs_ (by rw [e_]; exact GW101.out)))) (fun hn_ => (Kd.freshB (zK BK101.out) k_ hn_)), Or.elim hk_ (fun hs_ => Or.elim hs_ (fun hs_ => fun e_ => Nat.not_le.2 hs_ (by rw [e_]; exact GW102.out)) (fun hs_ => Or.elim hs_ (fun hs_ => hs_.2) (fun hs_ => fun e_ => Nat.not_le.2 hs_ (by rw [e_]; exact GW102.out)))) (fun hn_ => (Kd.freshB (zK BK102.out) k_ hn_))⟩)) (zS HB)); replace BK101 := zKb BK101 hb; replace BK102 := zKb BK102 hb; replace HB := zBb HB hb; (try clear hb); (try clear ho0); have hcz154_0 := zc BK101 0; have hcz154_1 := zc BK101 1; have hfz154_0 := blk_frozen BK101.out 0; have hfz154_1 := blk_frozen BK101.out 1; have hcz155_0 := zc BK102 0; have hcz155_1 := zc BK102 1; have hcz155_2 := zc BK102 2; have hfz155_0 := blk_frozen BK102.out 0; have hfz155_1 := blk_frozen BK102.out 1; have hfz155_2 := blk_frozen BK102.out 2) | ((with_reducible refine gate_callee (f := 33) rfl ?_); refine zG (some 227) Try.func33 #[.agg #[.int .i64 a0_0, .slice A0_1 l0_1.length c0_1], .slice A1_2 l1_2.length c1_2] ?_; (with_reducible refine (finitefield_Inverse.calls kj114 a0_0 (fun k_ => k_ < w.heap.size) _ _ l0_1 (fun k_ => k_ < w.heap.size) _ _ l1_2 t158 t161 _ (Kd.V_mk HC0_1.out (Kd.F_below (Kd.C_F (Kd.heap_int .i64) HR0_1.out) (zT))) (Kd.V_mk HC1_2.out (Kd.F_below (Kd.C_F (Kd.heap_int .i64) HR1_2.out) (zT))) A142.out).mono ?_); rintro e w156 ⟨v159, rfl, ho0, hb⟩; refine ⟨_, rfl, ?_⟩; replace HO_11 := zVb HO_11 hb; replace HO156 := zVb HO156 hb; have HO160 := Aside0.mk (Kd.V_lower (Kd.V_mono (ok' := fun k_ => k_ ≠ gb101 ∧ k_ ≠ gb102) ho0 (fun k_ hk_ => ⟨Or.elim hk_ (fun hs_ => Or.elim hs_ (fun hs_ => fun e_ => Nat.not_le.2 hs_ (by rw [e_]; exact GW101.out)) (fun hs_ => fun e_ => Nat.not_le.2 hs_ (by rw [e_]; exact GW101.out))) (fun hn_ => (Kd.freshB (zK BK101.out) k_ hn_)), Or.elim hk_ (fun hs_ => Or.elim hs_ (fun hs_ => fun e_ => Nat.not_le.2 hs_ (by rw [e_]; exact GW102.out)) (fun hs_ => fun e_ => Nat.not_le.2 hs_ (by rw [e_]; exact GW102.out))) (fun hn_ => (Kd.freshB (zK BK102.out) k_ hn_))⟩)) (zS HB)); replace BK101 := zKb BK101 hb; replace BK102 := zKb BK102 hb; replace HB := zBb HB hb; (try clear hb); (try clear ho0); have hcz157_0 := zc BK101 0; have hcz157_1 := zc BK101 1; have hfz157_0 := blk_frozen BK101.out 0; have hfz157_1 := blk_frozen BK101.out 1; have hcz158_0 := zc BK102 0; have hcz158_1 := zc BK102 1; have hcz158_2 := zc BK102 2; have hfz158_0 := blk_frozen BK102.out 0; have hfz158_1 := blk_frozen BK102.out 1; have hfz158_2 := blk_frozen BK102.out 2; obtain ⟨Ao159, co159, eo159⟩ := Kd.V_slice HO160.out; subst eo159) | ((with_reducible refine gate_callee (f := 18) rfl ?_); refine zG (some 235) Try.func18 #[.agg #[.int .i64 a0_0, .slice A0_1 l0_1.length c0_1], .slice Ao159 t158.length co159, .slice A1_2 l1_2.length c1_2] ?_; (with_reducible refine (finitefield_Mul.calls kj114 a0_0 _ _ l0_1 (fun k_ => (k_ ≠ gb101 ∧ k_ ≠ gb102)) _ _ t158 (fun k_ => k_ < w.heap.size) _ _ l1_2 t162 t165 _ (zC (Kd.C_below HR0_1.out HB.out)) HC0_1.out HO160.out (Kd.V_mk HC1_2.out (Kd.F_below (Kd.C_F (Kd.heap_int .i64) HR1_2.out) (zT))) A143.out).mono ?_); rintro e w160 ⟨v163, rfl, ho0, hb⟩; refine ⟨_, rfl, ?_⟩; replace HO_11 := zVb HO_11 hb; replace HO156 := zVb HO156 hb; replace HO160 := zVb HO160 hb; have HO164 := Aside0.mk (Kd.V_lower (Kd.V_mono (ok' := fun k_ => k_ ≠ gb101 ∧ k_ ≠ gb102) ho0 (fun k_ hk_ => ⟨Or.elim hk_ (fun hs_ => Or.elim hs_ (fun hs_ => hs_.1) (fun hs_ => fun e_ => Nat.not_le.2 hs_ (by rw [e_]; exact GW101.out))) (fun hn_ => (Kd.freshB (zK BK101.out) k_ hn_)), Or.elim hk_ (fun hs_ => Or.elim hs_ (fun hs_ => hs_.2) (fun hs_ => fun e_ => Nat.not_le.2 hs_ (by rw [e_]; exact GW102.out))) (fun hn_ => (Kd.freshB (zK BK102.out) k_ hn_))⟩)) (zS HB)); replace BK101 := zKb BK101 hb; replace BK102 := zKb BK102 hb; replace HB := zBb HB hb; (try clear hb); (try clear ho0); have hcz161_0 := zc BK102 0; have hcz161_1 := zc BK102 1; have hcz161_2 := zc BK102 2; have hfz161_0 := blk_frozen BK102.out 0; have hfz161_1 := blk_frozen BK102.out 1; have hfz161_2 := blk_frozen BK102.out 2; obtain ⟨Ao162, co162, eo162⟩ := Kd.V_slice HO156.out; subst eo162) | (go_at_call 19; (with_reducible refine (galoisref09_Same.calls kj114 _ _ t154 _ _ l1_0 true _ (zC ((Kd.V_reads' HO156.out).2.2)) ((Kd.V_reads' HO156.out).2.1) (zC (Kd.C_below HR1_0.out HB.out)) HC1_0.out A147.out).mono ?_); rintro e w' ⟨rfl, ⟨nd, rfl⟩⟩) | ((with_reducible refine gate_dst (N := 256) rfl ?_); (try (refine gate_guard (by rfl) ?_; dsimp only)); refine Kd.R_lit (Kd.int .i64) _ 3 ?hg (N := 256) ?hd (xs := ([1] : List Int)) (inner := [.int .i64 1]) (ok := fun _ => True) (okp := fun _ => True) ?hr ?hp (fun _ hk => hk) trivial (Below.refl _ _) (Nat.le_refl _) (by simp) ?_; (case hd => rfl); (case hg => rfl); (case hr => go_simp <;> rfl); (case hp => exact (Reps.one (show Kd.M (Kd.int .i64) _ _ _ 1 [.int .i64 1] from rfl) (Reps.none _ _))); intro v168 w163 ho164 hb hg_ hnew_; clear hg_ hnew_; (first | rw [← Ny167.out] at ho164 | (simp only [Int.reduceToNat] at ho164; rw [← Ny167.out] at ho164)); replace HO_11 := Aside0.mk (Kd.V_elder' (zV HO_11.out) (Kd.R_base ho164) hb); replace HO156 := Aside0.mk (Kd.V_elder' (zV HO156.out) (Kd.R_base ho164) hb); replace HO160 := Aside0.mk (Kd.V_elder' (zV HO160.out) (Kd.R_base ho164) hb); replace HO164 := Aside0.mk (Kd.V_elder' (zV HO164.out) (Kd.R_base ho164) hb); have HO169 := Aside0.mk (Kd.R_lower ho164 (zS HB)); replace BK101 := zKb BK101 hb; replace BK102 := zKb BK102 hb; replace HB := zBb HB hb; clear hb ho164; obtain ⟨Ao165, co165, eo165⟩ := Kd.V_slice HO164.out; subst eo165; obtain ⟨Ao166, co166, eo166⟩ := Kd.R_slice HO169.out; subst eo166) | (go_at_call 19; (with_reducible refine (galoisref09_Same.calls kj114 _ _ t162 _ _ y167 t170 _ (zC ((Kd.V_reads' HO164.out).2.2)) ((Kd.V_reads' HO164.out).2.1) (zC ((Kd.R_reads' HO169.out).2.2)) ((Kd.R_reads' HO169.out).2.1) A149.out).mono ?_); rintro e w' ⟨rfl, ⟨nd, rfl⟩⟩))
       go_ret
       exact ⟨zQ, zT⟩
def galoislaw15_FinitefieldField.Pure : Prop := ∀ (a0_0 : Int) (l0_1 : List Int) (l1_0 : List Int) (l1_1 : List Int) (l1_2 : List Int), (Lit.int .i64 a0_0).wf = true → l0_1.length ≤ maxLen → l0_1.length * 8 ≤ 140737488351232 → (∀ x ∈ l0_1, (Lit.int .i64 x).wf = true) → l1_0.length ≤ maxLen → l1_0.length * 8 ≤ 140737488351232 → (∀ x ∈ l1_0, (Lit.int .i64 x).wf = true) → l1_1.length ≤ maxLen → l1_1.length * 8 ≤ 140737488351232 → (∀ x ∈ l1_1, (Lit.int .i64 x).wf = true) → l1_2.length ≤ maxLen → l1_2.length * 8 ≤ 140737488351232 → (∀ x ∈ l1_2, (Lit.int .i64 x).wf = true) → ∃ k, galoislaw15_FinitefieldField.f k a0_0 l0_1 l1_0 l1_1 l1_2 = some true
theorem galoislaw15_FinitefieldField.walk (P : galoislaw15_FinitefieldField.Pure) (a0_0 : Int) (a0_1 : Option Addr) (len0_1 cap0_1 : Nat) (z0_1 : List Int) (a1_0 : Option Addr) (len1_0 cap1_0 : Nat) (z1_0 : List Int) (a1_1 : Option Addr) (len1_1 cap1_1 : Nat) (z1_1 : List Int) (a1_2 : Option Addr) (len1_2 cap1_2 : Nat) (z1_2 : List Int) (w : World) (w0_0 : (Lit.int .i64 a0_0).wf = true) (w0_1 : (a0_1 = none ∧ len0_1 = 0 ∧ cap0_1 = 0 ∧ z0_1 = []) ∨ ∃ x, a0_1 = some x ∧ len0_1 ≤ cap0_1 ∧ cap0_1 ≤ maxLen ∧ z0_1.length = cap0_1 ∧ (∀ i, i < z0_1.length → w.cell? (x.add i) = some (.int .i64 (z0_1.getD i 0))) ∧ ∀ n ∈ z0_1, (Lit.int .i64 n).wf = true) (y0_1 : len0_1 * 8 ≤ 140737488351232) (w1_0 : (a1_0 = none ∧ len1_0 = 0 ∧ cap1_0 = 0 ∧ z1_0 = []) ∨ ∃ x, a1_0 = some x ∧ len1_0 ≤ cap1_0 ∧ cap1_0 ≤ maxLen ∧ z1_0.length = cap1_0 ∧ (∀ i, i < z1_0.length → w.cell? (x.add i) = some (.int .i64 (z1_0.getD i 0))) ∧ ∀ n ∈ z1_0, (Lit.int .i64 n).wf = true) (y1_0 : len1_0 * 8 ≤ 140737488351232) (w1_1 : (a1_1 = none ∧ len1_1 = 0 ∧ cap1_1 = 0 ∧ z1_1 = []) ∨ ∃ x, a1_1 = some x ∧ len1_1 ≤ cap1_1 ∧ cap1_1 ≤ maxLen ∧ z1_1.length = cap1_1 ∧ (∀ i, i < z1_1.length → w.cell? (x.add i) = some (.int .i64 (z1_1.getD i 0))) ∧ ∀ n ∈ z1_1, (Lit.int .i64 n).wf = true) (y1_1 : len1_1 * 8 ≤ 140737488351232) (w1_2 : (a1_2 = none ∧ len1_2 = 0 ∧ cap1_2 = 0 ∧ z1_2 = []) ∨ ∃ x, a1_2 = some x ∧ len1_2 ≤ cap1_2 ∧ cap1_2 ≤ maxLen ∧ z1_2.length = cap1_2 ∧ (∀ i, i < z1_2.length → w.cell? (x.add i) = some (.int .i64 (z1_2.getD i 0))) ∧ ∀ n ∈ z1_2, (Lit.int .i64 n).wf = true) (y1_2 : len1_2 * 8 ≤ 140737488351232) :
  Calls Try.prog 6 #[.agg #[.int .i64 a0_0, .slice a0_1 len0_1 cap0_1], .agg #[.slice a1_0 len1_0 cap1_0, .slice a1_1 len1_1 cap1_1, .slice a1_2 len1_2 cap1_2]] w fun e w' => e = .returned (.bool true) ∧ Below w.heap.size w w' := by
 obtain ⟨l0_1, rfl, hr0_1, hm0_1, hw0_1, hc0_1⟩ := ReadsInt.ofRowC w0_1
 obtain ⟨l1_0, rfl, hr1_0, hm1_0, hw1_0, hc1_0⟩ := ReadsInt.ofRowC w1_0
 obtain ⟨l1_1, rfl, hr1_1, hm1_1, hw1_1, hc1_1⟩ := ReadsInt.ofRowC w1_1
 obtain ⟨l1_2, rfl, hr1_2, hm1_2, hw1_2, hc1_2⟩ := ReadsInt.ofRowC w1_2
 obtain ⟨k, h⟩ := P a0_0 l0_1 l1_0 l1_1 l1_2 w0_0 hm0_1 y0_1 hw0_1 hm1_0 y1_0 hw1_0 hm1_1 y1_1 hw1_1 hm1_2 y1_2 hw1_2
 refine (galoislaw15_FinitefieldField.calls k a0_0 _ _ l0_1 _ _ l1_0 _ _ l1_1 _ _ l1_2 true w (Kd.C_of_reads (d := (0 : Int)) (h1 := fun _ => rfl) hr0_1) hc0_1 (Kd.C_of_reads (d := (0 : Int)) (h1 := fun _ => rfl) hr1_0) hc1_0 (Kd.C_of_reads (d := (0 : Int)) (h1 := fun _ => rfl) hr1_1) hc1_1 (Kd.C_of_reads (d := (0 : Int)) (h1 := fun _ => rfl) hr1_2) hc1_2 h).mono ?_
 rintro e w' ⟨rfl, hd⟩
 exact ⟨rfl, hd⟩
end Go.Proofs.Ytalnaafmonmlmaa.Q
end

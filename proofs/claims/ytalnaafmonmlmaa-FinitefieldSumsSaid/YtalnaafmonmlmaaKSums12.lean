/- Machine side and arithmetic of the law, put together by a program of the session. No conditions. -/
import Derived.Test.YtalnaafmonmlmaaKSums5
import Derived.Test.YtalnaafmonmlmaaKSums6
import Derived.Test.YtalnaafmonmlmaaKSums7
import Derived.Test.YtalnaafmonmlmaaKSums8
import Derived.Test.YtalnaafmonmlmaaKSums11
section
namespace Go.Proofs.Ytalnaafmonmlmaa.Q
open Go.RowKit Go.Proofs.YtalnaafmonmlmaaW.PrintWords Go.Proofs.YtalnaafmonmlmaaW.PrintLast Go.Proofs.YtalnaafmonmlmaaW.PrintMore
attribute [local go_sem] max2_int min2_int max_two min_two max_three min_three max_four min_four
set_option linter.unusedVariables false
set_option linter.unusedSimpArgs false
set_option maxHeartbeats 8000000
set_option maxRecDepth 100000
mutual
def galoislaw15_FinitefieldSums.j0 : Nat → List Int → List Int → Bool → Int → List Int → Option (Bool)
 | 0, _, _, _, _, _ => none
 | k + 1, x1, x2, x22, x102000, x102001 => if x22 = true then ((galoislaw15_awake.f k).bind fun t104 => (some t104)) else ((finitefield_Add.f k x102000 x102001 x1 x2).bind fun bt105 => ((finitefield_Sub.f k x102000 x102001 x1 x2).bind fun bt109 => ((finitefield_Mul.f k x102000 x102001 x1 x2).bind fun bt113 => ((finitefield_Check.f k x102000 x102001).bind fun t117 => ((galoisref15_Check.f k x102000 x102001).bind fun t118 => (if t117 = t118 then ((finitefield_CheckElement.f k x102000 x102001 x1).bind fun t119 => ((galoisref15_CheckElement.f k x102000 x102001 x1).bind fun t120 => (galoislaw15_FinitefieldSums.j1 k x1 x2 bt105.1 bt105.2 bt109.1 bt109.2 bt113.1 bt113.2 (t119 != t120) x102000 x102001))) else (galoislaw15_FinitefieldSums.j1 k x1 x2 bt105.1 bt105.2 bt109.1 bt109.2 bt113.1 bt113.2 true x102000 x102001)))))))
def galoislaw15_FinitefieldSums.j1 : Nat → List Int → List Int → List Int → Int → List Int → Int → List Int → Int → Bool → Int → List Int → Option (Bool)
 | 0, _, _, _, _, _, _, _, _, _, _, _ => none
 | k + 1, x1, x2, x7, x8, x9, x10, x11, x12, x58, x102000, x102001 => if x58 = true then (none) else ((galoislaw15_expected.f k x102000 x102001 x1 x2).bind fun t121 => (if t121 = 0 then ((galoisref15_Add.f k x102000 x102001 x1 x2).bind fun t125 => ((galoislaw15_right.f k x7 x8 0 t125).bind fun t128 => (if t128 = true then ((galoisref15_Sub.f k x102000 x102001 x1 x2).bind fun t129 => ((galoislaw15_right.f k x9 x10 0 t129).bind fun t132 => (if t132 = true then ((galoisref15_Mul.f k x102000 x102001 x1 x2).bind fun t133 => ((galoislaw15_right.f k x11 x12 0 t133).bind fun t136 => (some t136))) else (none)))) else (none)))) else ((galoislaw15_right.f k x7 x8 t121 ([] : List Int)).bind fun t122 => (if t122 = true then ((galoislaw15_right.f k x9 x10 t121 ([] : List Int)).bind fun t123 => (if t123 = true then ((galoislaw15_right.f k x11 x12 t121 ([] : List Int)).bind fun t124 => (some t124)) else (none))) else (none)))))
end
def galoislaw15_FinitefieldSums.f (k : Nat) (a0_0 : Int) (l0_1 : List Int) (l1 : List Int) (l2 : List Int) : Option (Bool) := (galoislaw15_awake.f k).bind fun t102 => (if t102 = true then ((galoislaw15_short.f a0_0 l0_1 l1 l2).bind fun t103 => (galoislaw15_FinitefieldSums.j0 k l1 l2 (!t103) a0_0 l0_1)) else (galoislaw15_FinitefieldSums.j0 k l1 l2 true a0_0 l0_1))
theorem galoislaw15_FinitefieldSums.mono_l : ∀ k, (∀ y0 y1 y2 y3 y4, LeO (galoislaw15_FinitefieldSums.j0 k y0 y1 y2 y3 y4) (galoislaw15_FinitefieldSums.j0 (k + 1) y0 y1 y2 y3 y4)) ∧ (∀ y0 y1 y2 y3 y4 y5 y6 y7 y8 y9 y10, LeO (galoislaw15_FinitefieldSums.j1 k y0 y1 y2 y3 y4 y5 y6 y7 y8 y9 y10) (galoislaw15_FinitefieldSums.j1 (k + 1) y0 y1 y2 y3 y4 y5 y6 y7 y8 y9 y10))
 | 0 => ⟨fun _ _ _ _ _ r h => by simp [galoislaw15_FinitefieldSums.j0] at h, fun _ _ _ _ _ _ _ _ _ _ _ r h => by simp [galoislaw15_FinitefieldSums.j1] at h⟩
 | k + 1 => by
  obtain ⟨ih0, ih1⟩ := galoislaw15_FinitefieldSums.mono_l k
  refine ⟨?_, ?_⟩
  ·intro y0 y1 y2 y3 y4
   unfold galoislaw15_FinitefieldSums.j0
   with_reducible repeat' first | exact ih0 _ _ _ _ _ | exact ih1 _ _ _ _ _ _ _ _ _ _ _ | exact finitefield_Add.mono _ _ _ _ _ | exact finitefield_Check.mono _ _ _ | exact finitefield_CheckElement.mono _ _ _ _ | exact finitefield_Mul.mono _ _ _ _ _ | exact finitefield_Sub.mono _ _ _ _ _ | exact galoislaw15_awake.mono _ | exact galoislaw15_expected.mono _ _ _ _ _ | exact galoislaw15_right.mono _ _ _ _ _ | exact galoisref15_Add.mono _ _ _ _ _ | exact galoisref15_Check.mono _ _ _ | exact galoisref15_CheckElement.mono _ _ _ _ | exact galoisref15_Mul.mono _ _ _ _ _ | exact galoisref15_Sub.mono _ _ _ _ _ | exact LeO.refl _ | exact LeO.none _ | refine LeO.ite ?_ ?_ | refine LeO.bind ?_ (fun _ => ?_)
  intro y0 y1 y2 y3 y4 y5 y6 y7 y8 y9 y10
  unfold galoislaw15_FinitefieldSums.j1
  with_reducible repeat' first | exact ih0 _ _ _ _ _ | exact ih1 _ _ _ _ _ _ _ _ _ _ _ | exact finitefield_Add.mono _ _ _ _ _ | exact finitefield_Check.mono _ _ _ | exact finitefield_CheckElement.mono _ _ _ _ | exact finitefield_Mul.mono _ _ _ _ _ | exact finitefield_Sub.mono _ _ _ _ _ | exact galoislaw15_awake.mono _ | exact galoislaw15_expected.mono _ _ _ _ _ | exact galoislaw15_right.mono _ _ _ _ _ | exact galoisref15_Add.mono _ _ _ _ _ | exact galoisref15_Check.mono _ _ _ | exact galoisref15_CheckElement.mono _ _ _ _ | exact galoisref15_Mul.mono _ _ _ _ _ | exact galoisref15_Sub.mono _ _ _ _ _ | exact LeO.refl _ | exact LeO.none _ | refine LeO.ite ?_ ?_ | refine LeO.bind ?_ (fun _ => ?_)
theorem galoislaw15_FinitefieldSums.mono : ∀ a0 a1 a2 a3 k, LeO (galoislaw15_FinitefieldSums.f k a0 a1 a2 a3) (galoislaw15_FinitefieldSums.f (k + 1) a0 a1 a2 a3) := by
 intro a0 a1 a2 a3 k
 obtain ⟨ih0, ih1⟩ := galoislaw15_FinitefieldSums.mono_l k
 unfold galoislaw15_FinitefieldSums.f
 with_reducible repeat' first | exact ih0 _ _ _ _ _ | exact ih1 _ _ _ _ _ _ _ _ _ _ _ | exact finitefield_Add.mono _ _ _ _ _ | exact finitefield_Check.mono _ _ _ | exact finitefield_CheckElement.mono _ _ _ _ | exact finitefield_Mul.mono _ _ _ _ _ | exact finitefield_Sub.mono _ _ _ _ _ | exact galoislaw15_awake.mono _ | exact galoislaw15_expected.mono _ _ _ _ _ | exact galoislaw15_right.mono _ _ _ _ _ | exact galoisref15_Add.mono _ _ _ _ _ | exact galoisref15_Check.mono _ _ _ | exact galoisref15_CheckElement.mono _ _ _ _ | exact galoisref15_Mul.mono _ _ _ _ _ | exact galoisref15_Sub.mono _ _ _ _ _ | exact LeO.refl _ | exact LeO.none _ | refine LeO.ite ?_ ?_ | refine LeO.bind ?_ (fun _ => ?_)
def galoislaw15_FinitefieldSums.T6 : Bool × List (List Nat × List Nat) := (true, [([], []), ([0], [0]), ([], []), ([2, 1], [2]), ([1, 3], [1, 3]), ([4, 3], [4]), ([5], [5]), ([5], [5]), ([6, 7, 5, 5], [5, 6, 7]), ([5], [5]), ([5], [5]), ([9, 10, 8, 5], [5, 9, 10]), ([8, 11, 5], [5, 8, 11]), ([5, 12], [5, 12])])
def galoislaw15_FinitefieldSums.B6 : List Nat := [0, 1, 0, 7, 15, 31, 63, 63, 255, 63, 63, 2047, 4095, 8191]
theorem galoislaw15_FinitefieldSums.tab6 : rtab .any (opsOf Try.f5 6) = galoislaw15_FinitefieldSums.T6 := by kernel_rfl
theorem galoislaw15_FinitefieldSums.bits6 : waitsOk galoislaw15_FinitefieldSums.T6.2 galoislaw15_FinitefieldSums.B6 = true := by kernel_rfl
theorem galoislaw15_FinitefieldSums.calls (k : Nat) (a0_0 : Int) (A0_1 : Option Addr) (c0_1 : Nat) (l0_1 : List Int) (A1 : Option Addr) (c1 : Nat) (l1 : List Int) (A2 : Option Addr) (c2 : Nat) (l2 : List Int) (r : Bool) (w : World) (hr0_1 : Kd.C (Kd.int .i64) w A0_1 l0_1.length l0_1) (hc0_1 : l0_1.length ≤ c0_1) (hr1 : Kd.C (Kd.int .i64) w A1 l1.length l1) (hc1 : l1.length ≤ c1) (hr2 : Kd.C (Kd.int .i64) w A2 l2.length l2) (hc2 : l2.length ≤ c2) (h : galoislaw15_FinitefieldSums.f k a0_0 l0_1 l1 l2 = some r) :
  Calls Try.prog 5 #[.agg #[.int .i64 a0_0, .slice A0_1 l0_1.length c0_1], .slice A1 l1.length c1, .slice A2 l2.length c2] w fun e w' => e = .returned (.bool r) ∧ Below w.heap.size w w' := by
 have hu33 := Try.underlying33
 have HR0_1 := Aside0.mk hr0_1
 have HC0_1 := Aside0.mk hc0_1
 clear hr0_1 hc0_1
 have HR1 := Aside0.mk hr1
 have HC1 := Aside0.mk hc1
 clear hr1 hc1
 have HR2 := Aside0.mk hr2
 have HC2 := Aside0.mk hc2
 clear hr2 hc2
 have HB := Aside0.mk (Below.refl w.heap.size w)
 have H := h; clear h; unfold galoislaw15_FinitefieldSums.f at H
 have HC4 := Aside0.mk H
 clear H
 go_enter Try.func5, Try.ntmps5
 go_upto_region 1 with (first | ((with_reducible refine gate_dst (N := 3) rfl ?_); refine zb 3 #[.int .i64 a0_0, .slice A0_1 l0_1.length c0_1] 33 ?_; intro gb101 hg w5 hbox hb; have BK101 := Aside0.mk (hbox); have GW101 := zg HB hg; have GE101 := GW101; replace HB := zBb HB hb; clear hb hbox hg))
 (try simp only [Act.put, List.setIfInBounds_toArray, List.set_cons_zero, List.set_cons_succ])
 go_cut [22] (fun v22 wc => ∃ (kq : Nat) (x22_3 : Bool), v22 = .bool x22_3 ∧ Aside0 (galoislaw15_FinitefieldSums.j0 kq l1 l2 x22_3 a0_0 l0_1 = some r) ∧ Aside0 (kq ≤ k) ∧ Aside0 (wc.heap[gb101]? = some (.cells #[.int .i64 a0_0, (.slice A0_1 l0_1.length c0_1)] 33 (0, 0))) ∧ Aside0 (Below w.heap.size w wc))
 case first =>
  have H := HC4.out
  clear HC4
  obtain ⟨t102, A6, H⟩ := zO H
  by_cases c7 : t102 = true
  rotate_left
  ·replace c7 := Bool.eq_false_iff.mpr c7
   subst c7
   rw [if_neg Bool.false_ne_true] at H
   have H' := Aside0.mk H
   clear H
   go_wp2_with (first | ((with_reducible refine gate_callee (f := 9) rfl ?_); refine zG (some 14) Try.func9 #[] ?_; (with_reducible refine (galoislaw15_awake.calls k  false _ A6.out).mono ?_); rintro e w12 ⟨rfl, hb⟩; refine ⟨_, rfl, ?_⟩; replace BK101 := zKb BK101 hb; replace HB := zBb HB hb; (try clear hb)))
   go_meet
   case rel => exact ⟨_, (true), zX, H', ⟨by first | omega | exact Nat.le_refl _⟩, ⟨zK BK101.out⟩, ⟨zT⟩⟩
  subst c7
  rw [if_pos rfl] at H
  obtain ⟨t103, A8, H⟩ := zO H
  have H' := Aside0.mk H
  clear H
  go_wp2_with (first | ((with_reducible refine gate_callee (f := 9) rfl ?_); refine zG (some 14) Try.func9 #[] ?_; (with_reducible refine (galoislaw15_awake.calls k  true _ A6.out).mono ?_); rintro e w9 ⟨rfl, hb⟩; refine ⟨_, rfl, ?_⟩; replace BK101 := zKb BK101 hb; replace HB := zBb HB hb; (try clear hb); have hcz10_0 := zc BK101 0; have hcz10_1 := zc BK101 1; have hfz10_0 := blk_frozen BK101.out 0; have hfz10_1 := blk_frozen BK101.out 1) | (go_at_call 20; (with_reducible refine (galoislaw15_short.calls a0_0 _ _ l0_1 _ _ l1 _ _ l2 t103 _ ?side1 ?side2 ?side3 ?side4 ?side5 ?side6 A8.out).mono ?_); (case side1 => exact zC (Kd.C_below HR0_1.out HB.out)); (case side2 => exact HC0_1.out); (case side3 => exact zC (Kd.C_below HR1.out HB.out)); (case side4 => exact HC1.out); (case side5 => exact zC (Kd.C_below HR2.out HB.out)); (case side6 => exact HC2.out); rintro e w11 ⟨rfl, hb⟩; replace BK101 := zKb BK101 hb; replace HB := zBb HB hb; (try clear hb)))
  go_meet
  case rel => exact ⟨_, (!t103), zX, H', ⟨by first | omega | exact Nat.le_refl _⟩, ⟨zK BK101.out⟩, ⟨zT⟩⟩
 case rest =>
  clear HC4
  try clear c1; try clear c2; try clear p2; try clear c5; try clear c7; try clear c9; try clear hcz10_0; try clear hcz10_1; try clear hfz10_0; try clear hfz10_1
  obtain ⟨kq, x22_3, rfl, HA, HJ3, BK101, HB⟩ := hcut
  cases kq with
  | zero => exact absurd HA.out (by simp [galoislaw15_FinitefieldSums.j0])
  | succ kj3 =>
   have H := HA.out
   clear HA
   simp only [galoislaw15_FinitefieldSums.j0] at H
   by_cases c13 : x22_3 = true
   ·subst c13
    rw [if_pos rfl] at H
    obtain ⟨t104, A14, H⟩ := zO H
    obtain rfl := Option.some.inj H
    go_wp2_with (first | ((with_reducible refine gate_callee (f := 9) rfl ?_); refine zG (some 23) Try.func9 #[] ?_; (with_reducible refine (galoislaw15_awake.calls kj3  t104 _ A14.out).mono ?_); rintro e w15 ⟨rfl, hb⟩; refine ⟨_, rfl, ?_⟩; replace BK101 := zKb BK101 hb; replace HB := zBb HB hb; (try clear hb)))
    go_ret
    exact ⟨zQ, zT⟩
   replace c13 := Bool.eq_false_iff.mpr c13
   subst c13
   rw [if_neg Bool.false_ne_true] at H
   obtain ⟨⟨t105, t108⟩, A16, H⟩ := zO H; try dsimp only at H
   obtain ⟨⟨t109, t112⟩, A17, H⟩ := zO H; try dsimp only at H
   obtain ⟨⟨t113, t116⟩, A18, H⟩ := zO H; try dsimp only at H
   have HC19 := Aside0.mk H
   clear H
   have hcz20_0 := zc BK101 0
   have hcz20_1 := zc BK101 1
   have hfz20_0 := blk_frozen BK101.out 0
   have hfz20_1 := blk_frozen BK101.out 1
   go_upto_region 6 with (first | ((with_reducible refine gate_callee (f := 21) rfl ?_); refine zG (some 28) Try.func21 #[.agg #[.int .i64 a0_0, .slice A0_1 l0_1.length c0_1], .slice A1 l1.length c1, .slice A2 l2.length c2] ?_; (with_reducible refine (finitefield_Add.calls kj3 a0_0 _ _ l0_1 (fun k_ => k_ < w.heap.size) _ _ l1 (fun k_ => k_ < w.heap.size) _ _ l2 t105 t108 _ ?side1 ?side2 ?side3 ?side4 A16.out).mono ?_); (case side1 => exact zC (Kd.C_below HR0_1.out HB.out)); (case side2 => exact HC0_1.out); (case side3 => exact Kd.V_mk HC1.out (Kd.F_below (Kd.C_F (Kd.heap_int .i64) HR1.out) (zT))); (case side4 => exact Kd.V_mk HC2.out (Kd.F_below (Kd.C_F (Kd.heap_int .i64) HR2.out) (zT))); rintro e w21 ⟨v106, rfl, ho0, hb⟩; refine ⟨_, rfl, ?_⟩; have HO107 := Aside0.mk (Kd.V_lower (Kd.V_mono (ok' := fun k_ => k_ ≠ gb101) ho0 (fun k_ hk_ => Or.elim hk_ (fun hs_ => Or.elim hs_ (fun hs_ => fun e_ => Nat.not_le.2 hs_ (by rw [e_]; exact GW101.out)) (fun hs_ => fun e_ => Nat.not_le.2 hs_ (by rw [e_]; exact GW101.out))) (fun hn_ => (Kd.freshB (zK BK101.out) k_ hn_)))) (zS HB)); replace BK101 := zKb BK101 hb; replace HB := zBb HB hb; (try clear hb); (try clear ho0); have hcz22_0 := zc BK101 0; have hcz22_1 := zc BK101 1; have hfz22_0 := blk_frozen BK101.out 0; have hfz22_1 := blk_frozen BK101.out 1) | ((with_reducible refine gate_callee (f := 22) rfl ?_); refine zG (some 35) Try.func22 #[.agg #[.int .i64 a0_0, .slice A0_1 l0_1.length c0_1], .slice A1 l1.length c1, .slice A2 l2.length c2] ?_; (with_reducible refine (finitefield_Sub.calls kj3 a0_0 _ _ l0_1 (fun k_ => k_ < w.heap.size) _ _ l1 (fun k_ => k_ < w.heap.size) _ _ l2 t109 t112 _ ?side1 ?side2 ?side3 ?side4 A17.out).mono ?_); (case side1 => exact zC (Kd.C_below HR0_1.out HB.out)); (case side2 => exact HC0_1.out); (case side3 => exact Kd.V_mk HC1.out (Kd.F_below (Kd.C_F (Kd.heap_int .i64) HR1.out) (zT))); (case side4 => exact Kd.V_mk HC2.out (Kd.F_below (Kd.C_F (Kd.heap_int .i64) HR2.out) (zT))); rintro e w23 ⟨v110, rfl, ho0, hb⟩; refine ⟨_, rfl, ?_⟩; replace HO107 := zVb HO107 hb; have HO111 := Aside0.mk (Kd.V_lower (Kd.V_mono (ok' := fun k_ => k_ ≠ gb101) ho0 (fun k_ hk_ => Or.elim hk_ (fun hs_ => Or.elim hs_ (fun hs_ => fun e_ => Nat.not_le.2 hs_ (by rw [e_]; exact GW101.out)) (fun hs_ => fun e_ => Nat.not_le.2 hs_ (by rw [e_]; exact GW101.out))) (fun hn_ => (Kd.freshB (zK BK101.out) k_ hn_)))) (zS HB)); replace BK101 := zKb BK101 hb; replace HB := zBb HB hb; (try clear hb); (try clear ho0); have hcz24_0 := zc BK101 0; have hcz24_1 := zc BK101 1; have hfz24_0 := blk_frozen BK101.out 0; have hfz24_1 := blk_frozen BK101.out 1) | ((with_reducible refine gate_callee (f := 18) rfl ?_); refine zG (some 42) Try.func18 #[.agg #[.int .i64 a0_0, .slice A0_1 l0_1.length c0_1], .slice A1 l1.length c1, .slice A2 l2.length c2] ?_; (with_reducible refine (finitefield_Mul.calls kj3 a0_0 _ _ l0_1 (fun k_ => k_ < w.heap.size) _ _ l1 (fun k_ => k_ < w.heap.size) _ _ l2 t113 t116 _ ?side1 ?side2 ?side3 ?side4 A18.out).mono ?_); (case side1 => exact zC (Kd.C_below HR0_1.out HB.out)); (case side2 => exact HC0_1.out); (case side3 => exact Kd.V_mk HC1.out (Kd.F_below (Kd.C_F (Kd.heap_int .i64) HR1.out) (zT))); (case side4 => exact Kd.V_mk HC2.out (Kd.F_below (Kd.C_F (Kd.heap_int .i64) HR2.out) (zT))); rintro e w25 ⟨v114, rfl, ho0, hb⟩; refine ⟨_, rfl, ?_⟩; replace HO107 := zVb HO107 hb; replace HO111 := zVb HO111 hb; have HO115 := Aside0.mk (Kd.V_lower (Kd.V_mono (ok' := fun k_ => k_ ≠ gb101) ho0 (fun k_ hk_ => Or.elim hk_ (fun hs_ => Or.elim hs_ (fun hs_ => fun e_ => Nat.not_le.2 hs_ (by rw [e_]; exact GW101.out)) (fun hs_ => fun e_ => Nat.not_le.2 hs_ (by rw [e_]; exact GW101.out))) (fun hn_ => (Kd.freshB (zK BK101.out) k_ hn_)))) (zS HB)); replace BK101 := zKb BK101 hb; replace HB := zBb HB hb; (try clear hb); (try clear ho0)))
   (try simp only [Act.put, List.setIfInBounds_toArray, List.set_cons_zero, List.set_cons_succ])
   go_cut [58] (fun v58 wc => ∃ (kq : Nat) (x58_18 : Bool), v58 = .bool x58_18 ∧ Aside0 (galoislaw15_FinitefieldSums.j1 kq l1 l2 t105 t108 t109 t112 t113 t116 x58_18 a0_0 l0_1 = some r) ∧ Aside0 (kq ≤ kj3) ∧ Aside0 (Kd.V (Kd.int .i64) 3 wc w.heap.size (fun k_ => k_ ≠ gb101) v106 t105) ∧ Aside0 (Kd.V (Kd.int .i64) 3 wc w.heap.size (fun k_ => k_ ≠ gb101) v110 t109) ∧ Aside0 (Kd.V (Kd.int .i64) 3 wc w.heap.size (fun k_ => k_ ≠ gb101) v114 t113) ∧ Aside0 (wc.heap[gb101]? = some (.cells #[.int .i64 a0_0, (.slice A0_1 l0_1.length c0_1)] 33 (0, 0))) ∧ Aside0 (Below w.heap.size w wc))
   case first =>
    have H := HC19.out
    clear HC19
    obtain ⟨t117, A26, H⟩ := zO H
    obtain ⟨t118, A27, H⟩ := zO H
    by_cases c28 : t117 = t118
    rotate_left
    ·rw [if_neg c28] at H
     obtain ⟨c28b0, c28b1⟩ := zU c28
     (first | rw [c28b0] | (simp only [i64_w, i32_w]; rw [c28b0]) | skip)
     have H' := Aside0.mk H
     clear H
     try go_wp2
     replace HO107 := Aside0.mk (Kd.V_drew HO107.out)
     replace HO111 := Aside0.mk (Kd.V_drew HO111.out)
     replace HO115 := Aside0.mk (Kd.V_drew HO115.out)
     replace BK101 := Aside0.mk (blk_drew BK101.out)
     replace HB := Aside0.mk (below_drew1 HB.out)
     refine start_ (n := 14) (S := fun w' => w'.cell? ⟨gb101, 0, none⟩ = some (.int .i64 a0_0) ∧ w'.cell? ⟨gb101, 1, none⟩ = some (.slice A0_1 l0_1.length c0_1)) (ds := []) #[false, false, false, false, false, false, false, false, false, false, false, false, false, false] (by kernel_rfl) rfl rfl ⟨(blk_cell BK101.out 0).trans rfl, (blk_cell BK101.out 1).trans rfl⟩ (fun hHeld => ?_); refine with_tabW galoislaw15_FinitefieldSums.tab6 galoislaw15_FinitefieldSums.bits6 (fun HT_ HW_ => ?_)
     generalize w25.drew = w36 at HO107 HO111 HO115 BK101 HB hHeld ⊢
     refine take_ (i := 0) (N := some 45) (v := ?_) (a' := ?_) #[true, false, false, false, false, false, false, false, false, false, false, false, false, false] rfl rfl (take_ofW HT_.out HW_.out (by kernel_rfl)) (fun _ _ _ h => h) (Or.inl ⟨by rfl, ?_⟩) hHeld ?_ ?_
     rotate_left
     ·rintro w' ⟨s0, s1⟩
      go_simp
      with_reducible rfl
     rotate_left
     ·simp only [Act.put, List.setIfInBounds_toArray, List.set_cons_zero, List.set_cons_succ, i64_w, i32_w]
      rfl
     refine take_ (i := 2) (N := some 47) (v := ?_) (a' := ?_) #[true, false, true, false, false, false, false, false, false, false, false, false, false, false] rfl rfl (take_ofW HT_.out HW_.out (by kernel_rfl)) (fun _ _ _ h => h) (Or.inl ⟨by rfl, ?_⟩) hHeld ?_ ?_
     rotate_left
     ·rintro w' ⟨s0, s1⟩
      go_simp
      with_reducible rfl
     rotate_left
     ·simp only [Act.put, List.setIfInBounds_toArray, List.set_cons_zero, List.set_cons_succ, i64_w, i32_w]
      rfl
     refine one_ (i := 1) (N := some 46) #[true, true, true, false, false, false, false, false, false, false, false, false, false, false] rfl rfl (one_of HT_.out (by kernel_rfl)) (by decide) (fun K hK => ?_)
     refine goes_ Try.func23 (by kernel_rfl) rfl #[.agg #[.int .i64 a0_0, .slice A0_1 l0_1.length c0_1]] (by rfl) rfl rfl (by (try simp only [List.map_toArray, List.map_cons, List.map_nil]); first | done | rfl | (simp only [List.length_drop, List.length_take]; rfl)) ?_
     with_reducible refine (finitefield_Check.calls kj3 a0_0 _ _ l0_1 t117 _ ?side1 ?side2 A26.out).mono ?_
     (case side1 => exact zC (Kd.C_below HR0_1.out HB.out))
     (case side2 => exact HC0_1.out)
     rintro e w37 ⟨rfl, hb⟩
     refine ⟨_, rfl, ?_⟩
     replace HO107 := zVb HO107 hb
     replace HO111 := zVb HO111 hb
     replace HO115 := zVb HO115 hb
     replace BK101 := zKb BK101 hb
     replace HB := zBb HB hb
     (try clear hb)
     (try clear hb2)
     (try clear hk)
     (try clear hi)
     refine hK.out _ _ ⟨(blk_cell BK101.out 0).trans rfl, (blk_cell BK101.out 1).trans rfl⟩ (fun hHeld => ?_)
     clear hK K
     refine norm_ (a' := ?_) ?_ ?_
     rotate_left
     ·show Act.put _ (some 46) _ = _
      simp only [Act.put, List.setIfInBounds_toArray, List.set_cons_zero, List.set_cons_succ, i64_w, i32_w]
      rfl
     refine one_ (i := 3) (N := some 48) #[true, true, true, true, false, false, false, false, false, false, false, false, false, false] rfl rfl (one_of HT_.out (by kernel_rfl)) (by decide) (fun K hK => ?_)
     refine goes_ Try.func24 (by kernel_rfl) rfl #[.agg #[.int .i64 a0_0, .slice A0_1 l0_1.length c0_1]] (by rfl) rfl rfl (by (try simp only [List.map_toArray, List.map_cons, List.map_nil]); first | done | rfl | (simp only [List.length_drop, List.length_take]; rfl)) ?_
     with_reducible refine (galoisref15_Check.calls kj3 a0_0 _ _ l0_1 t118 _ ?side1 ?side2 A27.out).mono ?_
     (case side1 => exact zC (Kd.C_below HR0_1.out HB.out))
     (case side2 => exact HC0_1.out)
     rintro e w38 ⟨rfl, hb⟩
     refine ⟨_, rfl, ?_⟩
     replace HO107 := zVb HO107 hb
     replace HO111 := zVb HO111 hb
     replace HO115 := zVb HO115 hb
     replace BK101 := zKb BK101 hb
     replace HB := zBb HB hb
     (try clear hb)
     (try clear hb2)
     (try clear hk)
     (try clear hi)
     refine hK.out _ _ ⟨(blk_cell BK101.out 0).trans rfl, (blk_cell BK101.out 1).trans rfl⟩ (fun hHeld => ?_)
     clear hK K
     refine norm_ (a' := ?_) ?_ ?_
     rotate_left
     ·show Act.put _ (some 48) _ = _
      simp only [Act.put, List.setIfInBounds_toArray, List.set_cons_zero, List.set_cons_succ, i64_w, i32_w]
      rfl
     refine zP 4 49 ?_; refine zP 5 50 ?_
     refine pure_ (i := 6) (N := some 51) (v := undef) (a' := ?_) #[true, true, true, true, true, true, true, false, false, false, false, false, false, false] rfl rfl (any_of HT_.out (by kernel_rfl)) (fun _ _ _ h => h) (Or.inr ⟨by rfl, rfl⟩) ?_ ?_
     rotate_left
     ·simp only [Act.put, List.setIfInBounds_toArray, List.set_cons_zero, List.set_cons_succ, i64_w, i32_w]
      rfl
     refine pure_ (i := 7) (N := some 52) (v := undef) (a' := ?_) #[true, true, true, true, true, true, true, true, false, false, false, false, false, false] rfl rfl (any_of HT_.out (by kernel_rfl)) (fun _ _ _ h => h) (Or.inr ⟨by rfl, rfl⟩) ?_ ?_
     rotate_left
     ·simp only [Act.put, List.setIfInBounds_toArray, List.set_cons_zero, List.set_cons_succ, i64_w, i32_w]
      rfl
     refine pure_ (i := 8) (N := some 53) (v := undef) (a' := ?_) #[true, true, true, true, true, true, true, true, true, false, false, false, false, false] rfl rfl (any_of HT_.out (by kernel_rfl)) (fun _ _ _ h => h) (Or.inr ⟨by rfl, rfl⟩) ?_ ?_
     rotate_left
     ·simp only [Act.put, List.setIfInBounds_toArray, List.set_cons_zero, List.set_cons_succ, i64_w, i32_w]
      rfl
     refine pure_ (i := 9) (N := some 54) (v := undef) (a' := ?_) #[true, true, true, true, true, true, true, true, true, true, false, false, false, false] rfl rfl (any_of HT_.out (by kernel_rfl)) (fun _ _ _ h => h) (Or.inr ⟨by rfl, rfl⟩) ?_ ?_
     rotate_left
     ·simp only [Act.put, List.setIfInBounds_toArray, List.set_cons_zero, List.set_cons_succ, i64_w, i32_w]
      rfl
     refine pure_ (i := 10) (N := some 55) (v := undef) (a' := ?_) #[true, true, true, true, true, true, true, true, true, true, true, false, false, false] rfl rfl (any_of HT_.out (by kernel_rfl)) (fun _ _ _ h => h) (Or.inr ⟨by rfl, rfl⟩) ?_ ?_
     rotate_left
     ·simp only [Act.put, List.setIfInBounds_toArray, List.set_cons_zero, List.set_cons_succ, i64_w, i32_w]
      rfl
     refine pure_ (i := 11) (N := some 56) (v := undef) (a' := ?_) #[true, true, true, true, true, true, true, true, true, true, true, true, false, false] rfl rfl (any_of HT_.out (by kernel_rfl)) (fun _ _ _ h => h) (Or.inr ⟨by rfl, rfl⟩) ?_ ?_
     rotate_left
     ·simp only [Act.put, List.setIfInBounds_toArray, List.set_cons_zero, List.set_cons_succ, i64_w, i32_w]
      rfl
     refine pure_ (i := 12) (N := some 57) (v := undef) (a' := ?_) #[true, true, true, true, true, true, true, true, true, true, true, true, true, false] rfl rfl (any_of HT_.out (by kernel_rfl)) (fun _ _ _ h => h) (Or.inr ⟨by rfl, rfl⟩) ?_ ?_
     rotate_left
     ·simp only [Act.put, List.setIfInBounds_toArray, List.set_cons_zero, List.set_cons_succ, i64_w, i32_w]
      rfl
     refine zP 13 58 ?_
     refine done_ (done_of HT_.out (by kernel_rfl)) ?_
     try go_wp2
     go_meet
     case rel => exact ⟨_, (true), zX, H', ⟨by have := HJ3.out; first | omega | exact Nat.le_refl _⟩, ⟨zV HO107.out⟩, ⟨zV HO111.out⟩, ⟨zV HO115.out⟩, ⟨zK BK101.out⟩, ⟨zT⟩⟩
    rw [if_pos c28] at H
    obtain ⟨c28b0, c28b1⟩ := zE c28; clear c28
    (first | rw [c28b0] | (simp only [i64_w, i32_w]; rw [c28b0]) | skip)
    obtain ⟨t119, A29, H⟩ := zO H
    obtain ⟨t120, A30, H⟩ := zO H
    have H' := Aside0.mk H
    clear H
    try go_wp2
    replace HO107 := Aside0.mk (Kd.V_drew HO107.out)
    replace HO111 := Aside0.mk (Kd.V_drew HO111.out)
    replace HO115 := Aside0.mk (Kd.V_drew HO115.out)
    replace BK101 := Aside0.mk (blk_drew BK101.out)
    replace HB := Aside0.mk (below_drew1 HB.out)
    refine start_ (n := 14) (S := fun w' => w'.cell? ⟨gb101, 0, none⟩ = some (.int .i64 a0_0) ∧ w'.cell? ⟨gb101, 1, none⟩ = some (.slice A0_1 l0_1.length c0_1)) (ds := []) #[false, false, false, false, false, false, false, false, false, false, false, false, false, false] (by kernel_rfl) rfl rfl ⟨(blk_cell BK101.out 0).trans rfl, (blk_cell BK101.out 1).trans rfl⟩ (fun hHeld => ?_); refine with_tabW galoislaw15_FinitefieldSums.tab6 galoislaw15_FinitefieldSums.bits6 (fun HT_ HW_ => ?_)
    generalize w25.drew = w31 at HO107 HO111 HO115 BK101 HB hHeld ⊢
    refine take_ (i := 0) (N := some 45) (v := ?_) (a' := ?_) #[true, false, false, false, false, false, false, false, false, false, false, false, false, false] rfl rfl (take_ofW HT_.out HW_.out (by kernel_rfl)) (fun _ _ _ h => h) (Or.inl ⟨by rfl, ?_⟩) hHeld ?_ ?_
    rotate_left
    ·rintro w' ⟨s0, s1⟩
     go_simp
     with_reducible rfl
    rotate_left
    ·simp only [Act.put, List.setIfInBounds_toArray, List.set_cons_zero, List.set_cons_succ, i64_w, i32_w]
     rfl
    refine take_ (i := 2) (N := some 47) (v := ?_) (a' := ?_) #[true, false, true, false, false, false, false, false, false, false, false, false, false, false] rfl rfl (take_ofW HT_.out HW_.out (by kernel_rfl)) (fun _ _ _ h => h) (Or.inl ⟨by rfl, ?_⟩) hHeld ?_ ?_
    rotate_left
    ·rintro w' ⟨s0, s1⟩
     go_simp
     with_reducible rfl
    rotate_left
    ·simp only [Act.put, List.setIfInBounds_toArray, List.set_cons_zero, List.set_cons_succ, i64_w, i32_w]
     rfl
    refine one_ (i := 1) (N := some 46) #[true, true, true, false, false, false, false, false, false, false, false, false, false, false] rfl rfl (one_of HT_.out (by kernel_rfl)) (by decide) (fun K hK => ?_)
    refine goes_ Try.func23 (by kernel_rfl) rfl #[.agg #[.int .i64 a0_0, .slice A0_1 l0_1.length c0_1]] (by rfl) rfl rfl (by (try simp only [List.map_toArray, List.map_cons, List.map_nil]); first | done | rfl | (simp only [List.length_drop, List.length_take]; rfl)) ?_
    with_reducible refine (finitefield_Check.calls kj3 a0_0 _ _ l0_1 t117 _ ?side1 ?side2 A26.out).mono ?_
    (case side1 => exact zC (Kd.C_below HR0_1.out HB.out))
    (case side2 => exact HC0_1.out)
    rintro e w32 ⟨rfl, hb⟩
    refine ⟨_, rfl, ?_⟩
    replace HO107 := zVb HO107 hb
    replace HO111 := zVb HO111 hb
    replace HO115 := zVb HO115 hb
    replace BK101 := zKb BK101 hb
    replace HB := zBb HB hb
    (try clear hb)
    (try clear hb2)
    (try clear hk)
    (try clear hi)
    refine hK.out _ _ ⟨(blk_cell BK101.out 0).trans rfl, (blk_cell BK101.out 1).trans rfl⟩ (fun hHeld => ?_)
    clear hK K
    refine norm_ (a' := ?_) ?_ ?_
    rotate_left
    ·show Act.put _ (some 46) _ = _
     simp only [Act.put, List.setIfInBounds_toArray, List.set_cons_zero, List.set_cons_succ, i64_w, i32_w]
     rfl
    refine one_ (i := 3) (N := some 48) #[true, true, true, true, false, false, false, false, false, false, false, false, false, false] rfl rfl (one_of HT_.out (by kernel_rfl)) (by decide) (fun K hK => ?_)
    refine goes_ Try.func24 (by kernel_rfl) rfl #[.agg #[.int .i64 a0_0, .slice A0_1 l0_1.length c0_1]] (by rfl) rfl rfl (by (try simp only [List.map_toArray, List.map_cons, List.map_nil]); first | done | rfl | (simp only [List.length_drop, List.length_take]; rfl)) ?_
    with_reducible refine (galoisref15_Check.calls kj3 a0_0 _ _ l0_1 t118 _ ?side1 ?side2 A27.out).mono ?_
    (case side1 => exact zC (Kd.C_below HR0_1.out HB.out))
    (case side2 => exact HC0_1.out)
    rintro e w33 ⟨rfl, hb⟩
    refine ⟨_, rfl, ?_⟩
    replace HO107 := zVb HO107 hb
    replace HO111 := zVb HO111 hb
    replace HO115 := zVb HO115 hb
    replace BK101 := zKb BK101 hb
    replace HB := zBb HB hb
    (try clear hb)
    (try clear hb2)
    (try clear hk)
    (try clear hi)
    refine hK.out _ _ ⟨(blk_cell BK101.out 0).trans rfl, (blk_cell BK101.out 1).trans rfl⟩ (fun hHeld => ?_)
    clear hK K
    refine norm_ (a' := ?_) ?_ ?_
    rotate_left
    ·show Act.put _ (some 48) _ = _
     simp only [Act.put, List.setIfInBounds_toArray, List.set_cons_zero, List.set_cons_succ, i64_w, i32_w]
     rfl
    refine zP 4 49 ?_; refine zP 5 50 ?_; refine zP 7 52 ?_; refine zP 10 55 ?_
    refine take_ (i := 6) (N := some 51) (v := ?_) (a' := ?_) #[true, true, true, true, true, true, true, true, false, false, true, false, false, false] rfl rfl (take_ofW HT_.out HW_.out (by kernel_rfl)) (fun _ _ _ h => h) (Or.inl ⟨by rfl, ?_⟩) hHeld ?_ ?_
    rotate_left
    ·rintro w' ⟨s0, s1⟩
     go_simp
     with_reducible rfl
    rotate_left
    ·simp only [Act.put, List.setIfInBounds_toArray, List.set_cons_zero, List.set_cons_succ, i64_w, i32_w]
     rfl
    refine take_ (i := 9) (N := some 54) (v := ?_) (a' := ?_) #[true, true, true, true, true, true, true, true, false, true, true, false, false, false] rfl rfl (take_ofW HT_.out HW_.out (by kernel_rfl)) (fun _ _ _ h => h) (Or.inl ⟨by rfl, ?_⟩) hHeld ?_ ?_
    rotate_left
    ·rintro w' ⟨s0, s1⟩
     go_simp
     with_reducible rfl
    rotate_left
    ·simp only [Act.put, List.setIfInBounds_toArray, List.set_cons_zero, List.set_cons_succ, i64_w, i32_w]
     rfl
    refine one_ (i := 8) (N := some 53) #[true, true, true, true, true, true, true, true, true, true, true, false, false, false] rfl rfl (one_of HT_.out (by kernel_rfl)) (by decide) (fun K hK => ?_)
    refine goes_ Try.func25 (by kernel_rfl) rfl #[.agg #[.int .i64 a0_0, .slice A0_1 l0_1.length c0_1], .slice A1 l1.length c1] (by rfl) rfl rfl (by (try simp only [List.map_toArray, List.map_cons, List.map_nil]); first | done | rfl | (simp only [List.length_drop, List.length_take]; rfl)) ?_
    with_reducible refine (finitefield_CheckElement.calls kj3 a0_0 _ _ l0_1 (fun k_ => k_ < w.heap.size) _ _ l1 t119 _ ?side1 ?side2 ?side3 A29.out).mono ?_
    (case side1 => exact zC (Kd.C_below HR0_1.out HB.out))
    (case side2 => exact HC0_1.out)
    (case side3 => exact Kd.V_mk HC1.out (Kd.F_below (Kd.C_F (Kd.heap_int .i64) HR1.out) (zT)))
    rintro e w34 ⟨rfl, hb⟩
    refine ⟨_, rfl, ?_⟩
    replace HO107 := zVb HO107 hb
    replace HO111 := zVb HO111 hb
    replace HO115 := zVb HO115 hb
    replace BK101 := zKb BK101 hb
    replace HB := zBb HB hb
    (try clear hb)
    (try clear hb2)
    (try clear hk)
    (try clear hi)
    refine hK.out _ _ ⟨(blk_cell BK101.out 0).trans rfl, (blk_cell BK101.out 1).trans rfl⟩ (fun hHeld => ?_)
    clear hK K
    refine norm_ (a' := ?_) ?_ ?_
    rotate_left
    ·show Act.put _ (some 53) _ = _
     simp only [Act.put, List.setIfInBounds_toArray, List.set_cons_zero, List.set_cons_succ, i64_w, i32_w]
     rfl
    refine one_ (i := 11) (N := some 56) #[true, true, true, true, true, true, true, true, true, true, true, true, false, false] rfl rfl (one_of HT_.out (by kernel_rfl)) (by decide) (fun K hK => ?_)
    refine goes_ Try.func26 (by kernel_rfl) rfl #[.agg #[.int .i64 a0_0, .slice A0_1 l0_1.length c0_1], .slice A1 l1.length c1] (by rfl) rfl rfl (by (try simp only [List.map_toArray, List.map_cons, List.map_nil]); first | done | rfl | (simp only [List.length_drop, List.length_take]; rfl)) ?_
    with_reducible refine (galoisref15_CheckElement.calls kj3 a0_0 _ _ l0_1 _ _ l1 t120 _ ?side1 ?side2 ?side3 ?side4 A30.out).mono ?_
    (case side1 => exact zC (Kd.C_below HR0_1.out HB.out))
    (case side2 => exact HC0_1.out)
    (case side3 => exact zC (Kd.C_below HR1.out HB.out))
    (case side4 => exact HC1.out)
    rintro e w35 ⟨rfl, hb⟩
    refine ⟨_, rfl, ?_⟩
    replace HO107 := zVb HO107 hb
    replace HO111 := zVb HO111 hb
    replace HO115 := zVb HO115 hb
    replace BK101 := zKb BK101 hb
    replace HB := zBb HB hb
    (try clear hb)
    (try clear hb2)
    (try clear hk)
    (try clear hi)
    refine hK.out _ _ ⟨(blk_cell BK101.out 0).trans rfl, (blk_cell BK101.out 1).trans rfl⟩ (fun hHeld => ?_)
    clear hK K
    refine norm_ (a' := ?_) ?_ ?_
    rotate_left
    ·show Act.put _ (some 56) _ = _
     simp only [Act.put, List.setIfInBounds_toArray, List.set_cons_zero, List.set_cons_succ, i64_w, i32_w]
     rfl
    refine zP 12 57 ?_; refine zP 13 58 ?_
    refine done_ (done_of HT_.out (by kernel_rfl)) ?_
    try go_wp2
    go_meet
    case rel => exact ⟨_, ((t119 != t120)), zX, H', ⟨by have := HJ3.out; first | omega | exact Nat.le_refl _⟩, ⟨zV HO107.out⟩, ⟨zV HO111.out⟩, ⟨zV HO115.out⟩, ⟨zK BK101.out⟩, ⟨zT⟩⟩
   case rest =>
    clear HC19
    try clear c1; try clear c2; try clear p2; try clear c5; try clear c7; try clear c9; try clear c13; try clear c18; try clear c21; try clear c22; try clear c23; try clear c24; try clear c25; try clear c26; try clear c28; try clear c28b0; try clear c28b1; try clear hcz10_0; try clear hcz10_1; try clear hcz20_0; try clear hcz20_1; try clear hcz22_0; try clear hcz22_1; try clear hcz24_0; try clear hcz24_1; try clear hfz10_0; try clear hfz10_1; try clear hfz20_0; try clear hfz20_1; try clear hfz22_0; try clear hfz22_1; try clear hfz24_0; try clear hfz24_1; try clear p2
    obtain ⟨kq, x58_18, rfl, HA, HJ18, HO_7, HO_9, HO_11, BK101, HB⟩ := hcut
    cases kq with
    | zero => exact absurd HA.out (by simp [galoislaw15_FinitefieldSums.j1])
    | succ kj18 =>
     have H := HA.out
     clear HA
     simp only [galoislaw15_FinitefieldSums.j1] at H
     by_cases c39 : x58_18 = true
     ·subst c39
      rw [if_pos rfl] at H
      exact absurd H (by simp)
     replace c39 := Bool.eq_false_iff.mpr c39
     subst c39
     rw [if_neg Bool.false_ne_true] at H
     obtain ⟨t121, A40, H⟩ := zO H
     by_cases c41 : t121 = 0
     rotate_left
     ·rw [if_neg c41] at H
      obtain ⟨c41b0, c41b1⟩ := zU c41
      obtain ⟨t122, A64, H⟩ := zO H
      by_cases c65 : t122 = true
      rotate_left
      ·replace c65 := Bool.eq_false_iff.mpr c65
       subst c65
       rw [if_neg Bool.false_ne_true] at H
       exact absurd H (by simp)
      subst c65
      rw [if_pos rfl] at H
      obtain ⟨t123, A66, H⟩ := zO H
      by_cases c67 : t123 = true
      rotate_left
      ·replace c67 := Bool.eq_false_iff.mpr c67
       subst c67
       rw [if_neg Bool.false_ne_true] at H
       exact absurd H (by simp)
      subst c67
      rw [if_pos rfl] at H
      obtain ⟨t124, A68, H⟩ := zO H
      obtain rfl := Option.some.inj H
      have hcz69_0 := zc BK101 0
      have hcz69_1 := zc BK101 1
      have hfz69_0 := blk_frozen BK101.out 0
      have hfz69_1 := blk_frozen BK101.out 1
      go_wp2_with (first | ((with_reducible refine gate_callee (f := 27) rfl ?_); refine zG (some 62) Try.func27 #[.agg #[.int .i64 a0_0, .slice A0_1 l0_1.length c0_1], .slice A1 l1.length c1, .slice A2 l2.length c2] ?_; (with_reducible refine (galoislaw15_expected.calls kj18 a0_0 _ _ l0_1 _ _ l1 _ _ l2 t121 _ ?side1 ?side2 ?side3 ?side4 ?side5 ?side6 A40.out).mono ?_); (case side1 => exact zC (Kd.C_below HR0_1.out HB.out)); (case side2 => exact HC0_1.out); (case side3 => exact zC (Kd.C_below HR1.out HB.out)); (case side4 => exact HC1.out); (case side5 => exact zC (Kd.C_below HR2.out HB.out)); (case side6 => exact HC2.out); rintro e w70 ⟨rfl, hb⟩; refine ⟨_, rfl, ?_⟩; replace HO_7 := zVb HO_7 hb; replace HO_9 := zVb HO_9 hb; replace HO_11 := zVb HO_11 hb; replace BK101 := zKb BK101 hb; replace HB := zBb HB hb; (try clear hb); obtain ⟨Ao71, co71, eo71⟩ := Kd.V_slice HO_7.out; subst eo71) | ((with_reducible refine gate_callee (f := 12) rfl ?_); refine zG (some 68) Try.func12 #[.slice Ao71 t105.length co71, .int .i64 t108, .int .i64 t121, .slice none 0 0] ?_; (refine (galoislaw15_right.calls kj18 _ _ t105 t108 t121 _ _ ([] : List Int) true _ ?side1 ?side2 ?side3 ?side4 A64.out).mono ?_); (case side1 => exact zC ((Kd.V_reads' HO_7.out).2.2)); (case side2 => exact (Kd.V_reads' HO_7.out).2.1); (case side3 => exact Kd.C_nil _ _); (case side4 => exact Nat.le_refl _); rintro e w' ⟨rfl, ⟨nd, rfl⟩⟩; refine ⟨_, rfl, ?_⟩; obtain ⟨Ao72, co72, eo72⟩ := Kd.V_slice HO_9.out; subst eo72) | (go_at_call 12; refine calls_of_args (args' := #[.slice _ t109.length _, .int .i64 t112, .int .i64 t121, .slice none ([] : List Int).length 0]) rfl ?_; (with_reducible refine (galoislaw15_right.calls kj18 _ _ t109 t112 t121 _ _ ([] : List Int) true _ ?side1 ?side2 ?side3 ?side4 A66.out).mono ?_); (case side1 => exact zC ((Kd.V_reads' HO_9.out).2.2)); (case side2 => exact (Kd.V_reads' HO_9.out).2.1); (case side3 => exact Kd.C_nil _ _); (case side4 => exact Nat.le_refl _); rintro e w' ⟨rfl, ⟨nd, rfl⟩⟩; obtain ⟨Ao73, co73, eo73⟩ := Kd.V_slice HO_11.out; subst eo73) | (go_at_call 12; refine calls_of_args (args' := #[.slice _ t113.length _, .int .i64 t116, .int .i64 t121, .slice none ([] : List Int).length 0]) rfl ?_; (with_reducible refine (galoislaw15_right.calls kj18 _ _ t113 t116 t121 _ _ ([] : List Int) t124 _ ?side1 ?side2 ?side3 ?side4 A68.out).mono ?_); (case side1 => exact zC ((Kd.V_reads' HO_11.out).2.2)); (case side2 => exact (Kd.V_reads' HO_11.out).2.1); (case side3 => exact Kd.C_nil _ _); (case side4 => exact Nat.le_refl _); rintro e w' ⟨rfl, ⟨nd, rfl⟩⟩))
      go_ret
      exact ⟨zQ, zT⟩
     rw [if_pos c41] at H
     obtain ⟨c41b0, c41b1⟩ := zE c41; clear c41
     obtain ⟨t125, A42, H⟩ := zO H
     obtain ⟨t128, A43, H⟩ := zO H
     by_cases c44 : t128 = true
     rotate_left
     ·replace c44 := Bool.eq_false_iff.mpr c44
      subst c44
      rw [if_neg Bool.false_ne_true] at H
      exact absurd H (by simp)
     subst c44
     rw [if_pos rfl] at H
     obtain ⟨t129, A45, H⟩ := zO H
     obtain ⟨t132, A46, H⟩ := zO H
     by_cases c47 : t132 = true
     rotate_left
     ·replace c47 := Bool.eq_false_iff.mpr c47
      subst c47
      rw [if_neg Bool.false_ne_true] at H
      exact absurd H (by simp)
     subst c47
     rw [if_pos rfl] at H
     obtain ⟨t133, A48, H⟩ := zO H
     obtain ⟨t136, A49, H⟩ := zO H
     obtain rfl := Option.some.inj H
     have hcz50_0 := zc BK101 0
     have hcz50_1 := zc BK101 1
     have hfz50_0 := blk_frozen BK101.out 0
     have hfz50_1 := blk_frozen BK101.out 1
     go_wp2_with (first | ((with_reducible refine gate_callee (f := 27) rfl ?_); refine zG (some 62) Try.func27 #[.agg #[.int .i64 a0_0, .slice A0_1 l0_1.length c0_1], .slice A1 l1.length c1, .slice A2 l2.length c2] ?_; (with_reducible refine (galoislaw15_expected.calls kj18 a0_0 _ _ l0_1 _ _ l1 _ _ l2 t121 _ ?side1 ?side2 ?side3 ?side4 ?side5 ?side6 A40.out).mono ?_); (case side1 => exact zC (Kd.C_below HR0_1.out HB.out)); (case side2 => exact HC0_1.out); (case side3 => exact zC (Kd.C_below HR1.out HB.out)); (case side4 => exact HC1.out); (case side5 => exact zC (Kd.C_below HR2.out HB.out)); (case side6 => exact HC2.out); rintro e w51 ⟨rfl, hb⟩; refine ⟨_, rfl, ?_⟩; replace HO_7 := zVb HO_7 hb; replace HO_9 := zVb HO_9 hb; replace HO_11 := zVb HO_11 hb; replace BK101 := zKb BK101 hb; replace HB := zBb HB hb; (try clear hb); have hcz52_0 := zc BK101 0; have hcz52_1 := zc BK101 1; have hfz52_0 := blk_frozen BK101.out 0; have hfz52_1 := blk_frozen BK101.out 1) | ((with_reducible refine gate_callee (f := 28) rfl ?_); refine zG (some 86) Try.func28 #[.agg #[.int .i64 a0_0, .slice A0_1 l0_1.length c0_1], .slice A1 l1.length c1, .slice A2 l2.length c2] ?_; (with_reducible refine (galoisref15_Add.calls kj18 a0_0 _ _ l0_1 _ _ l1 _ _ l2 t125 _ ?side1 ?side2 ?side3 ?side4 ?side5 ?side6 A42.out).mono ?_); (case side1 => exact zC (Kd.C_below HR0_1.out HB.out)); (case side2 => exact HC0_1.out); (case side3 => exact zC (Kd.C_below HR1.out HB.out)); (case side4 => exact HC1.out); (case side5 => exact zC (Kd.C_below HR2.out HB.out)); (case side6 => exact HC2.out); rintro e w53 ⟨v126, rfl, ho0, hb⟩; refine ⟨_, rfl, ?_⟩; replace HO_7 := zVb HO_7 hb; replace HO_9 := zVb HO_9 hb; replace HO_11 := zVb HO_11 hb; have HO127 := Aside0.mk (Kd.V_lower (Kd.V_mono (ok' := fun k_ => k_ ≠ gb101) ho0 (fun k_ hk_ => (Kd.freshB (zK BK101.out) k_ hk_))) (zS HB)); replace BK101 := zKb BK101 hb; replace HB := zBb HB hb; (try clear hb); (try clear ho0); obtain ⟨Ao54, co54, eo54⟩ := Kd.V_slice HO_7.out; subst eo54; obtain ⟨Ao55, co55, eo55⟩ := Kd.V_slice HO127.out; subst eo55) | ((with_reducible refine gate_callee (f := 12) rfl ?_); refine zG (some 87) Try.func12 #[.slice Ao54 t105.length co54, .int .i64 t108, .int .i64 0, .slice Ao55 t125.length co55] ?_; (with_reducible refine (galoislaw15_right.calls kj18 _ _ t105 t108 0 _ _ t125 true _ ?side1 ?side2 ?side3 ?side4 A43.out).mono ?_); (case side1 => exact zC ((Kd.V_reads' HO_7.out).2.2)); (case side2 => exact (Kd.V_reads' HO_7.out).2.1); (case side3 => exact zC ((Kd.V_reads' HO127.out).2.2)); (case side4 => exact (Kd.V_reads' HO127.out).2.1); rintro e w' ⟨rfl, ⟨nd, rfl⟩⟩; refine ⟨_, rfl, ?_⟩; have hcz56_0 := zc BK101 0; have hcz56_1 := zc BK101 1; have hfz56_0 := blk_frozen BK101.out 0; have hfz56_1 := blk_frozen BK101.out 1) | (go_at_call 29; (with_reducible refine (galoisref15_Sub.calls kj18 a0_0 _ _ l0_1 _ _ l1 _ _ l2 t129 _ ?side1 ?side2 ?side3 ?side4 ?side5 ?side6 A45.out).mono ?_); (case side1 => exact zC ((Kd.C_below HR0_1.out (zT)))); (case side2 => exact HC0_1.out); (case side3 => exact zC ((Kd.C_below HR1.out (zT)))); (case side4 => exact HC1.out); (case side5 => exact zC ((Kd.C_below HR2.out (zT)))); (case side6 => exact HC2.out); rintro e w57 ⟨v130, rfl, ho0, hb⟩; replace HO_7 := zVb HO_7 hb; replace HO_9 := zVb HO_9 hb; replace HO_11 := zVb HO_11 hb; replace HO127 := zVb HO127 hb; have HO131 := Aside0.mk (Kd.V_lower (Kd.V_mono (ok' := fun k_ => k_ ≠ gb101) ho0 (fun k_ hk_ => (Kd.freshB (zK BK101.out) k_ hk_))) (zS HB)); replace BK101 := zKb BK101 hb; replace HB := zBb HB hb; (try clear hb); (try clear ho0); obtain ⟨Ao58, co58, eo58⟩ := Kd.V_slice HO_9.out; subst eo58; obtain ⟨Ao59, co59, eo59⟩ := Kd.V_slice HO131.out; subst eo59) | (go_at_call 12; (with_reducible refine (galoislaw15_right.calls kj18 _ _ t109 t112 0 _ _ t129 true _ ?side1 ?side2 ?side3 ?side4 A46.out).mono ?_); (case side1 => exact zC ((Kd.V_reads' HO_9.out).2.2)); (case side2 => exact (Kd.V_reads' HO_9.out).2.1); (case side3 => exact zC ((Kd.V_reads' HO131.out).2.2)); (case side4 => exact (Kd.V_reads' HO131.out).2.1); rintro e w' ⟨rfl, ⟨nd, rfl⟩⟩; have hcz60_0 := zc BK101 0; have hcz60_1 := zc BK101 1; have hfz60_0 := blk_frozen BK101.out 0; have hfz60_1 := blk_frozen BK101.out 1) | (go_at_call 30; (with_reducible refine (galoisref15_Mul.calls kj18 a0_0 _ _ l0_1 _ _ l1 _ _ l2 t133 _ ?side1 ?side2 ?side3 ?side4 ?side5 ?side6 A48.out).mono ?_); (case side1 => exact zC ((Kd.C_below HR0_1.out (zT)))); (case side2 => exact HC0_1.out); (case side3 => exact zC ((Kd.C_below HR1.out (zT)))); (case side4 => exact HC1.out); (case side5 => exact zC ((Kd.C_below HR2.out (zT)))); (case side6 => exact HC2.out); rintro e w61 ⟨v134, rfl, ho0, hb⟩; replace HO_7 := zVb HO_7 hb; replace HO_9 := zVb HO_9 hb; replace HO_11 := zVb HO_11 hb; replace HO127 := zVb HO127 hb; replace HO131 := zVb HO131 hb; have HO135 := Aside0.mk (Kd.V_lower (Kd.V_mono (ok' := fun k_ => k_ ≠ gb101) ho0 (fun k_ hk_ => (Kd.freshB (zK BK101.out) k_ hk_))) (zS HB)); replace BK101 := zKb BK101 hb; replace HB := zBb HB hb; (try clear hb); (try clear ho0); obtain ⟨Ao62, co62, eo62⟩ := Kd.V_slice HO_11.out; subst eo62; obtain ⟨Ao63, co63, eo63⟩ := Kd.V_slice HO135.out; subst eo63) | (go_at_call 12; (with_reducible refine (galoislaw15_right.calls kj18 _ _ t113 t116 0 _ _ t133 t136 _ ?side1 ?side2 ?side3 ?side4 A49.out).mono ?_); (case side1 => exact zC ((Kd.V_reads' HO_11.out).2.2)); (case side2 => exact (Kd.V_reads' HO_11.out).2.1); (case side3 => exact zC ((Kd.V_reads' HO135.out).2.2)); (case side4 => exact (Kd.V_reads' HO135.out).2.1); rintro e w' ⟨rfl, ⟨nd, rfl⟩⟩))
     go_ret
     exact ⟨zQ, zT⟩
def galoislaw15_FinitefieldSums.Pure : Prop := ∀ (a0_0 : Int) (l0_1 : List Int) (l1 : List Int) (l2 : List Int), (Lit.int .i64 a0_0).wf = true → l0_1.length ≤ maxLen → l0_1.length * 8 ≤ 140737488351232 → (∀ x ∈ l0_1, (Lit.int .i64 x).wf = true) → l1.length ≤ maxLen → l1.length * 8 ≤ 140737488351232 → (∀ x ∈ l1, (Lit.int .i64 x).wf = true) → l2.length ≤ maxLen → l2.length * 8 ≤ 140737488351232 → (∀ x ∈ l2, (Lit.int .i64 x).wf = true) → ∃ k, galoislaw15_FinitefieldSums.f k a0_0 l0_1 l1 l2 = some true
theorem galoislaw15_FinitefieldSums.walk (P : galoislaw15_FinitefieldSums.Pure) (a0_0 : Int) (a0_1 : Option Addr) (len0_1 cap0_1 : Nat) (z0_1 : List Int) (a1 : Option Addr) (len1 cap1 : Nat) (z1 : List Int) (a2 : Option Addr) (len2 cap2 : Nat) (z2 : List Int) (w : World) (w0_0 : (Lit.int .i64 a0_0).wf = true) (w0_1 : (a0_1 = none ∧ len0_1 = 0 ∧ cap0_1 = 0 ∧ z0_1 = []) ∨ ∃ x, a0_1 = some x ∧ len0_1 ≤ cap0_1 ∧ cap0_1 ≤ maxLen ∧ z0_1.length = cap0_1 ∧ (∀ i, i < z0_1.length → w.cell? (x.add i) = some (.int .i64 (z0_1.getD i 0))) ∧ ∀ n ∈ z0_1, (Lit.int .i64 n).wf = true) (y0_1 : len0_1 * 8 ≤ 140737488351232) (w1 : (a1 = none ∧ len1 = 0 ∧ cap1 = 0 ∧ z1 = []) ∨ ∃ x, a1 = some x ∧ len1 ≤ cap1 ∧ cap1 ≤ maxLen ∧ z1.length = cap1 ∧ (∀ i, i < z1.length → w.cell? (x.add i) = some (.int .i64 (z1.getD i 0))) ∧ ∀ n ∈ z1, (Lit.int .i64 n).wf = true) (y1 : len1 * 8 ≤ 140737488351232) (w2 : (a2 = none ∧ len2 = 0 ∧ cap2 = 0 ∧ z2 = []) ∨ ∃ x, a2 = some x ∧ len2 ≤ cap2 ∧ cap2 ≤ maxLen ∧ z2.length = cap2 ∧ (∀ i, i < z2.length → w.cell? (x.add i) = some (.int .i64 (z2.getD i 0))) ∧ ∀ n ∈ z2, (Lit.int .i64 n).wf = true) (y2 : len2 * 8 ≤ 140737488351232) :
  Calls Try.prog 5 #[.agg #[.int .i64 a0_0, .slice a0_1 len0_1 cap0_1], .slice a1 len1 cap1, .slice a2 len2 cap2] w fun e w' => e = .returned (.bool true) ∧ Below w.heap.size w w' := by
 obtain ⟨l0_1, rfl, hr0_1, hm0_1, hw0_1, hc0_1⟩ := ReadsInt.ofRowC w0_1
 obtain ⟨l1, rfl, hr1, hm1, hw1, hc1⟩ := ReadsInt.ofRowC w1
 obtain ⟨l2, rfl, hr2, hm2, hw2, hc2⟩ := ReadsInt.ofRowC w2
 obtain ⟨k, h⟩ := P a0_0 l0_1 l1 l2 w0_0 hm0_1 y0_1 hw0_1 hm1 y1 hw1 hm2 y2 hw2
 refine (galoislaw15_FinitefieldSums.calls k a0_0 _ _ l0_1 _ _ l1 _ _ l2 true w (Kd.C_of_reads (d := (0 : Int)) (h1 := fun _ => rfl) hr0_1) hc0_1 (Kd.C_of_reads (d := (0 : Int)) (h1 := fun _ => rfl) hr1) hc1 (Kd.C_of_reads (d := (0 : Int)) (h1 := fun _ => rfl) hr2) hc2 h).mono ?_
 rintro e w' ⟨rfl, hd⟩
 exact ⟨rfl, hd⟩
end Go.Proofs.Ytalnaafmonmlmaa.Q
end

/- Machine side and arithmetic of the law, put together by a program of the session. No conditions. -/
import Derived.Test.YtalnaafmonmlmaaKSums5
import Derived.Test.YtalnaafmonmlmaaKSums6
import Derived.Test.YtalnaafmonmlmaaKSums7
section
namespace Go.Proofs.Ytalnaafmonmlmaa.Q
open Go.RowKit Go.Proofs.YtalnaafmonmlmaaW.PrintWords Go.Proofs.YtalnaafmonmlmaaW.PrintLast Go.Proofs.YtalnaafmonmlmaaW.PrintMore
attribute [local go_sem] max2_int min2_int max_two min_two max_three min_three max_four min_four
set_option linter.unusedVariables false
set_option linter.unusedSimpArgs false
set_option maxHeartbeats 8000000
set_option maxRecDepth 100000
mutual
def gf_Field_Order.l0 : Nat → List Int → Int → List (S107) → Int → Int → Int → List Int → Option (Int)
 | 0, _, _, _, _, _, _, _ => none
 | k + 1, x1, x7, x19, x20, x21, x102000, x102001 => if x21 < x20 then (if 0 ≤ x21 then (if x21 < (x19.length : Int) then (gf_Field_Order.l1 k x1 x7 x19 x20 x21 x102000 x102001 ((rd_T107 x19 x21).f0) ((rd_T107 x19 x21).f1)) else (none)) else (none)) else (some x7)
def gf_Field_Order.l1 : Nat → List Int → Int → List (S107) → Int → Int → Int → List Int → Int → Int → Option (Int)
 | 0, _, _, _, _, _, _, _, _, _ => none
 | k + 1, x1, x7, x19, x20, x21, x102000, x102001, x108000, x108001 => if x108000 = 0 then (none) else (if (Int.tmod x7 x108000) = 0 then ((gf_Field_Pow.f k x102000 x102001 x1 (wrap64 (Int.tdiv x7 x108000))).bind fun t108 => ((gf_IsOne.f t108).bind fun t111 => (if t111 = true then (gf_Field_Order.l1 k x1 (wrap64 (Int.tdiv x7 x108000)) x19 x20 x21 x102000 x102001 x108000 x108001) else (gf_Field_Order.l0 k x1 x7 x19 x20 (wrap64 (x21 + 1)) x102000 x102001)))) else (gf_Field_Order.l0 k x1 x7 x19 x20 (wrap64 (x21 + 1)) x102000 x102001))
end
def gf_Field_Order.f (k : Nat) (a0_0 : Int) (l0_1 : List Int) (l1 : List Int) (a2 : Int) : Option (Int) := (residue_Factor.f k (wrap64 (a2 - 1))).bind fun bt102 => (gf_Field_Order.l0 k l1 (wrap64 (a2 - 1)) bt102.1 (bt102.1.length : Int) 0 a0_0 l0_1)
theorem gf_Field_Order.mono_l : ∀ k, (∀ y0 y1 y2 y3 y4 y5 y6, LeO (gf_Field_Order.l0 k y0 y1 y2 y3 y4 y5 y6) (gf_Field_Order.l0 (k + 1) y0 y1 y2 y3 y4 y5 y6)) ∧ (∀ y0 y1 y2 y3 y4 y5 y6 y7 y8, LeO (gf_Field_Order.l1 k y0 y1 y2 y3 y4 y5 y6 y7 y8) (gf_Field_Order.l1 (k + 1) y0 y1 y2 y3 y4 y5 y6 y7 y8))
 | 0 => ⟨fun _ _ _ _ _ _ _ r h => by simp [gf_Field_Order.l0] at h, fun _ _ _ _ _ _ _ _ _ r h => by simp [gf_Field_Order.l1] at h⟩
 | k + 1 => by
  obtain ⟨ih0, ih1⟩ := gf_Field_Order.mono_l k
  refine ⟨?_, ?_⟩
  ·intro y0 y1 y2 y3 y4 y5 y6
   unfold gf_Field_Order.l0
   with_reducible repeat' first | exact ih0 _ _ _ _ _ _ _ | exact ih1 _ _ _ _ _ _ _ _ _ | exact gf_Field_Pow.mono _ _ _ _ _ | exact residue_Factor.mono _ _ | exact LeO.refl _ | exact LeO.none _ | refine LeO.ite ?_ ?_ | refine LeO.bind ?_ (fun _ => ?_)
  intro y0 y1 y2 y3 y4 y5 y6 y7 y8
  unfold gf_Field_Order.l1
  with_reducible repeat' first | exact ih0 _ _ _ _ _ _ _ | exact ih1 _ _ _ _ _ _ _ _ _ | exact gf_Field_Pow.mono _ _ _ _ _ | exact residue_Factor.mono _ _ | exact LeO.refl _ | exact LeO.none _ | refine LeO.ite ?_ ?_ | refine LeO.bind ?_ (fun _ => ?_)
theorem gf_Field_Order.mono : ∀ a0 a1 a2 a3 k, LeO (gf_Field_Order.f k a0 a1 a2 a3) (gf_Field_Order.f (k + 1) a0 a1 a2 a3) := by
 intro a0 a1 a2 a3 k
 obtain ⟨ih0, ih1⟩ := gf_Field_Order.mono_l k
 unfold gf_Field_Order.f
 with_reducible repeat' first | exact ih0 _ _ _ _ _ _ _ | exact ih1 _ _ _ _ _ _ _ _ _ | exact gf_Field_Pow.mono _ _ _ _ _ | exact residue_Factor.mono _ _ | exact LeO.refl _ | exact LeO.none _ | refine LeO.ite ?_ ?_ | refine LeO.bind ?_ (fun _ => ?_)
def gf_Field_Order.T6 : Bool × List (List Nat × List Nat) := (true, [([], []), ([], []), ([1], [1]), ([0, 2], [0, 2]), ([3], [3]), ([4], [4]), ([5], [5]), ([5], [5]), ([5], [5]), ([5], [5]), ([9, 5], [5, 9]), ([8, 10, 5], [5, 8, 10]), ([6, 7, 11, 5, 5], [5, 6, 7, 11]), ([12, 12, 5], [5, 12]), ([5, 13], [5, 13])])
def gf_Field_Order.B6 : List Nat := [0, 0, 2, 7, 15, 31, 63, 63, 63, 63, 575, 1855, 4095, 8191, 16383]
theorem gf_Field_Order.tab6 : rtab .any (opsOf Try.f73 6) = gf_Field_Order.T6 := by kernel_rfl
theorem gf_Field_Order.bits6 : waitsOk gf_Field_Order.T6.2 gf_Field_Order.B6 = true := by kernel_rfl
theorem gf_Field_Order.calls (k : Nat) (a0_0 : Int) (A0_1 : Option Addr) (c0_1 : Nat) (l0_1 : List Int) (A1 : Option Addr) (c1 : Nat) (l1 : List Int) (a2 : Int) (r : Int) (w : World) (hr0_1 : Kd.C (Kd.int .i64) w A0_1 l0_1.length l0_1) (hc0_1 : l0_1.length ≤ c0_1) (hr1 : Kd.C (Kd.int .i64) w A1 l1.length l1) (hc1 : l1.length ≤ c1) (h : gf_Field_Order.f k a0_0 l0_1 l1 a2 = some r) :
  Calls Try.prog 73 #[.agg #[.int .i64 a0_0, .slice A0_1 l0_1.length c0_1], .slice A1 l1.length c1, .int .i64 a2] w fun e w' => e = .returned (.int .i64 r) ∧ Below w.heap.size w w' := by
 have hu68 := Try.underlying68
 have hu107 := Try.underlying107
 have HR0_1 := Aside0.mk hr0_1
 have HC0_1 := Aside0.mk hc0_1
 clear hr0_1 hc0_1
 have HR1 := Aside0.mk hr1
 have HC1 := Aside0.mk hc1
 clear hr1 hc1
 have HB := Aside0.mk (Below.refl w.heap.size w)
 have H := h; clear h; unfold gf_Field_Order.f at H
 obtain ⟨⟨t102, t103⟩, A4, H⟩ := zO H; try dsimp only at H
 have H' := Aside0.mk H
 clear H
 go_enter Try.func73, Try.ntmps73
 go_wp2_with (first | ((with_reducible refine gate_dst (N := 3) rfl ?_); refine zb 3 #[.int .i64 a0_0, .slice A0_1 l0_1.length c0_1] 68 ?_; intro gb101 hg w5 hbox hb; have BK101 := Aside0.mk (hbox); have GW101 := zg HB hg; have GE101 := GW101; replace HB := zBb HB hb; clear hb hbox hg) | ((with_reducible refine gate_callee (f := 102) rfl ?_); refine zG (some 16) Try.func102 #[.int .i64 (wrap64 (a2 - 1))] ?_; (with_reducible refine (residue_Factor.calls k (wrap64 (a2 - 1)) t102 t103 _ A4.out).mono ?_); rintro e w6 ⟨v104, rfl, ho0, hb⟩; refine ⟨_, rfl, ?_⟩; have HO105 := Aside0.mk (Kd.R_lower ho0 (zS HB)); replace BK101 := zKb BK101 hb; replace HB := zBb HB hb; (try clear hb); (try clear ho0); obtain ⟨Ao7, co7, eo7⟩ := Kd.R_slice HO105.out; subst eo7))
 go_loopg [7, 21] k (fun kq v7 v21 w' => ∃ (x7_1 : Int) (x21_1 : Int), v7 = .int .i64 x7_1 ∧ v21 = .int .i64 x21_1 ∧ Aside0 (gf_Field_Order.l0 kq l1 x7_1 t102 (t102.length : Int) x21_1 a0_0 l0_1 = some r) ∧ Aside0 (kq ≤ k) ∧ Aside0 (Kd.R k107 107 w' w.heap.size (fun _ => True) (.slice Ao7 t102.length co7) t102) ∧ Aside0 (w'.heap[gb101]? = some (.cells #[.int .i64 a0_0, (.slice A0_1 l0_1.length c0_1)] 68 (0, 0))) ∧ Aside0 (Below w.heap.size w w'))
 case atStart => exact ⟨(wrap64 (a2 - 1)), (0), zX, zX, H', ⟨Nat.le_refl _⟩, ⟨zR HO105.out⟩, ⟨zK BK101.out⟩, ⟨zT⟩⟩
 case round =>
  clear H'
  try clear c1; try clear p2; try clear p6; try clear c7
  obtain ⟨x7_1, x21_1, rfl, rfl, HA, HK1, HO_19, BK101, HB⟩ := hrel
  cases gk with
  | zero => exact absurd HA.out (by simp [gf_Field_Order.l0])
  | succ k1 =>
   have H := HA.out
   clear HA
   simp only [gf_Field_Order.l0] at H
   by_cases c8 : x21_1 < (t102.length : Int)
   rotate_left
   ·rw [if_neg c8] at H
    have c8b0 := decide_eq_false c8; clear c8
    obtain rfl := Option.some.inj H
    go_wp2
    go_ret
    exact ⟨zQ, zT⟩
   rw [if_pos c8] at H
   have c8b0 := decide_eq_true c8; clear c8
   by_cases c9 : 0 ≤ x21_1
   rotate_left
   ·rw [if_neg c9] at H
    exact absurd H (by simp)
   rw [if_pos c9] at H
   have c9b0 := decide_eq_true c9; clear c9
   by_cases c10 : x21_1 < (t102.length : Int)
   rotate_left
   ·rw [if_neg c10] at H
    exact absurd H (by simp)
   rw [if_pos c10] at H
   have c10b0 := decide_eq_true c10; clear c10
   have H' := Aside0.mk H
   clear H
   have p106 : 0 ≤ (x21_1 : Int) := zD
   have q106 : x21_1 < (t102.length : Int) := zD
   obtain ⟨ad106, e106, hx106_0, hx106_1⟩ := at_T107 (Kd.R_reads' HO_19.out).2.2 x21_1 p106 q106
   cases e106
   replace p106 := eq_true p106
   replace q106 := eq_true q106
   go_wp2_with (first | ((with_reducible refine gate_dst (N := 11) rfl ?_); refine zb 11 #[.int .i64 0, .int .i64 0] 107 ?_; intro gb107 hg w11 hbox hb; replace HO_19 := Aside0.mk (Kd.R_below (Kd.R_elderB (zR HO_19.out) gb107 (Nat.le_of_eq hg.symm)) hb); have BK107 := Aside0.mk (hbox); have GW107 := zg HB hg; have GE107 := GW107; replace HB := zBb HB hb; have NB101_107 := Aside0.mk ((by rw [hg]; exact Nat.ne_of_lt (blk_lt (zK BK101.out)) : gb101 ≠ gb107)); have NB107_101 := Aside0.mk ((by rw [hg]; exact Nat.ne_of_gt (blk_lt (zK BK101.out)) : gb107 ≠ gb101)); replace BK101 := zKb BK101 hb; clear hb hbox hg; have hnb12 := NB107_101.out; have hnc12 := NB101_107.out; have hcz13_0 := zc BK107 0; have hcz13_1 := zc BK107 1; have hfz13_0 := blk_frozen BK107.out 0; have hfz13_1 := blk_frozen BK107.out 1))
   go_loopg [7] k1 (fun kq v7 w' => ∃ (x7_2 : Int), v7 = .int .i64 x7_2 ∧ Aside0 (gf_Field_Order.l1 kq l1 x7_2 t102 (t102.length : Int) x21_1 a0_0 l0_1 ((rd_T107 t102 x21_1).f0) ((rd_T107 t102 x21_1).f1) = some r) ∧ Aside0 (kq ≤ k1) ∧ Aside0 (Kd.R k107 107 w' w.heap.size (fun k_ => k_ ≠ gb107) (.slice (some ad106) t102.length co7) t102) ∧ Aside0 (w'.heap[gb101]? = some (.cells #[.int .i64 a0_0, (.slice A0_1 l0_1.length c0_1)] 68 (0, 0))) ∧ Aside0 (w'.heap[gb107]? = some (.cells #[.int .i64 ((rd_T107 t102 x21_1).f0), .int .i64 ((rd_T107 t102 x21_1).f1)] 107 (0, 0))) ∧ Aside0 (Below w.heap.size w w'))
   case atStart => exact ⟨(x7_1), zX, H', ⟨Nat.le_refl _⟩, ⟨zR (Kd.R_mono (Kd.R_far (p := ⟨gb107, 1, none⟩) (Kd.R_far (p := ⟨gb107, 0, none⟩) (Kd.R_mono HO_19.out (fun k_ hk => (⟨hk, hk.2⟩ : _ ∧ k_ ≠ gb107))) (fun _ hk => hk.2) (.int .i64 ((rd_T107 t102 x21_1).f0))) (fun _ hk => hk.2) (.int .i64 ((rd_T107 t102 x21_1).f1))) (fun _ hk => hk.1.2))⟩, ⟨by (with_reducible repeat (first | refine blk_drewN ?_ _ | refine blk_drew ?_ | refine blk_alloc ?_ _)); refine blk_far ?_ NB101_107.out _; (with_reducible repeat (first | refine blk_drewN ?_ _ | refine blk_drew ?_ | refine blk_alloc ?_ _)); refine blk_far ?_ NB101_107.out _; (with_reducible repeat (first | refine blk_drewN ?_ _ | refine blk_drew ?_ | refine blk_alloc ?_ _)); exact BK101.out⟩, ⟨by (with_reducible repeat (first | refine blk_drewN ?_ _ | refine blk_drew ?_ | refine blk_alloc ?_ _)); refine blk_put (cs := #[.int .i64 ((rd_T107 t102 x21_1).f0), .int .i64 0]) ?_ 1 _ rfl; (with_reducible repeat (first | refine blk_drewN ?_ _ | refine blk_drew ?_ | refine blk_alloc ?_ _)); refine blk_put (cs := #[.int .i64 0, .int .i64 0]) ?_ 0 _ rfl; (with_reducible repeat (first | refine blk_drewN ?_ _ | refine blk_drew ?_ | refine blk_alloc ?_ _)); exact BK107.out⟩, ⟨zT⟩⟩
   case round =>
    clear H'
    try clear c1; try clear p1; try clear q1; try clear hx1; try clear p2; try clear p6; try clear c7; try clear c8; try clear c8b0; try clear c9; try clear c9b0; try clear c10; try clear c10b0; try clear p10; try clear q10; try clear hx10; try clear c12; try clear hcz13_0; try clear hcz13_1; try clear hfz13_0; try clear hfz13_1; try clear hx106_0; try clear hx106_1; try clear p106; try clear p2; try clear p6; try clear q106
    obtain ⟨x7_2, rfl, HA, HK2, HO_19, BK101, BK107, HB⟩ := hrel
    cases gk with
    | zero => exact absurd HA.out (by simp [gf_Field_Order.l1])
    | succ k2 =>
     have H := HA.out
     clear HA
     simp only [gf_Field_Order.l1] at H
     by_cases c14 : ((rd_T107 t102 x21_1).f0) = 0
     ·rw [if_pos c14] at H
      exact absurd H (by simp)
     rw [if_neg c14] at H
     obtain ⟨c14b0, c14b1⟩ := zU c14
     by_cases c15 : (Int.tmod x7_2 ((rd_T107 t102 x21_1).f0)) = 0
     rotate_left
     ·rw [if_neg c15] at H
      obtain ⟨c15b0, c15b1⟩ := zU c15
      have H' := Aside0.mk H
      clear H
      try go_wp2
      replace HO_19 := Aside0.mk (Kd.R_drew HO_19.out)
      replace BK101 := Aside0.mk (blk_drew BK101.out)
      replace BK107 := Aside0.mk (blk_drew BK107.out)
      replace HB := Aside0.mk (below_drew1 HB.out)
      refine start_ (n := 15) (S := fun w' => w'.cell? ⟨gb107, 0, none⟩ = some (.int .i64 ((rd_T107 t102 x21_1).f0)) ∧ w'.cell? ⟨gb107, 1, none⟩ = some (.int .i64 ((rd_T107 t102 x21_1).f1))) (ds := []) #[false, false, false, false, false, false, false, false, false, false, false, false, false, false, false] (by kernel_rfl) rfl rfl ⟨(blk_cell BK107.out 0).trans rfl, (blk_cell BK107.out 1).trans rfl⟩ (fun hHeld => ?_); refine with_tabW gf_Field_Order.tab6 gf_Field_Order.bits6 (fun HT_ HW_ => ?_)
      generalize wr.drew = w27 at HO_19 BK101 BK107 HB hHeld ⊢
      refine zP 0 25 ?_; refine zP 1 26 ?_
      refine take_ (i := 2) (N := some 27) (v := ?_) (a' := ?_) #[true, true, true, false, false, false, false, false, false, false, false, false, false, false, false] rfl rfl (take_ofW HT_.out HW_.out (by kernel_rfl)) (fun _ _ _ h => h) (Or.inl ⟨by rfl, ?_⟩) hHeld ?_ ?_
      rotate_left
      ·rintro w' ⟨s0, s1⟩
       go_simp
       with_reducible rfl
      rotate_left
      ·simp only [Act.put, List.setIfInBounds_toArray, List.set_cons_zero, List.set_cons_succ, i64_w, i32_w]
       rfl
      refine zP 3 28 ?_; refine zP 4 29 ?_; refine zP 5 30 ?_
      refine pure_ (i := 6) (N := some 31) (v := undef) (a' := ?_) #[true, true, true, true, true, true, true, false, false, false, false, false, false, false, false] rfl rfl (any_of HT_.out (by kernel_rfl)) (fun _ _ _ h => h) (Or.inr ⟨by rfl, rfl⟩) ?_ ?_
      rotate_left
      ·simp only [Act.put, List.setIfInBounds_toArray, List.set_cons_zero, List.set_cons_succ, i64_w, i32_w]
       rfl
      refine pure_ (i := 7) (N := some 32) (v := undef) (a' := ?_) #[true, true, true, true, true, true, true, true, false, false, false, false, false, false, false] rfl rfl (any_of HT_.out (by kernel_rfl)) (fun _ _ _ h => h) (Or.inr ⟨by rfl, rfl⟩) ?_ ?_
      rotate_left
      ·simp only [Act.put, List.setIfInBounds_toArray, List.set_cons_zero, List.set_cons_succ, i64_w, i32_w]
       rfl
      refine pure_ (i := 8) (N := some 33) (v := undef) (a' := ?_) #[true, true, true, true, true, true, true, true, true, false, false, false, false, false, false] rfl rfl (any_of HT_.out (by kernel_rfl)) (fun _ _ _ h => h) (Or.inr ⟨by rfl, rfl⟩) ?_ ?_
      rotate_left
      ·simp only [Act.put, List.setIfInBounds_toArray, List.set_cons_zero, List.set_cons_succ, i64_w, i32_w]
       rfl
      refine pure_ (i := 9) (N := some 34) (v := undef) (a' := ?_) #[true, true, true, true, true, true, true, true, true, true, false, false, false, false, false] rfl rfl (any_of HT_.out (by kernel_rfl)) (fun _ _ _ h => h) (Or.inr ⟨by rfl, rfl⟩) ?_ ?_
      rotate_left
      ·simp only [Act.put, List.setIfInBounds_toArray, List.set_cons_zero, List.set_cons_succ, i64_w, i32_w]
       rfl
      refine pure_ (i := 10) (N := some 35) (v := undef) (a' := ?_) #[true, true, true, true, true, true, true, true, true, true, true, false, false, false, false] rfl rfl (any_of HT_.out (by kernel_rfl)) (fun _ _ _ h => h) (Or.inr ⟨by rfl, rfl⟩) ?_ ?_
      rotate_left
      ·simp only [Act.put, List.setIfInBounds_toArray, List.set_cons_zero, List.set_cons_succ, i64_w, i32_w]
       rfl
      refine pure_ (i := 11) (N := some 36) (v := undef) (a' := ?_) #[true, true, true, true, true, true, true, true, true, true, true, true, false, false, false] rfl rfl (any_of HT_.out (by kernel_rfl)) (fun _ _ _ h => h) (Or.inr ⟨by rfl, rfl⟩) ?_ ?_
      rotate_left
      ·simp only [Act.put, List.setIfInBounds_toArray, List.set_cons_zero, List.set_cons_succ, i64_w, i32_w]
       rfl
      refine pure_ (i := 12) (N := some 37) (v := undef) (a' := ?_) #[true, true, true, true, true, true, true, true, true, true, true, true, true, false, false] rfl rfl (any_of HT_.out (by kernel_rfl)) (fun _ _ _ h => h) (Or.inr ⟨by rfl, rfl⟩) ?_ ?_
      rotate_left
      ·simp only [Act.put, List.setIfInBounds_toArray, List.set_cons_zero, List.set_cons_succ, i64_w, i32_w]
       rfl
      refine pure_ (i := 13) (N := some 38) (v := undef) (a' := ?_) #[true, true, true, true, true, true, true, true, true, true, true, true, true, true, false] rfl rfl (any_of HT_.out (by kernel_rfl)) (fun _ _ _ h => h) (Or.inr ⟨by rfl, rfl⟩) ?_ ?_
      rotate_left
      ·simp only [Act.put, List.setIfInBounds_toArray, List.set_cons_zero, List.set_cons_succ, i64_w, i32_w]
       rfl
      refine zP 14 39 ?_
      refine done_ (done_of HT_.out (by kernel_rfl)) ?_
      try go_wp2
      go_roundg k2
      case measure => have := HK1.out; have := HK2.out; omega
      case rel => exact ⟨(x7_2), (wrap64 (x21_1 + 1)), zX, zX, H', ⟨by have := HK1.out; have := HK2.out; omega⟩, ⟨zR (Kd.R_mono HO_19.out (fun _ hk => trivial))⟩, ⟨zK BK101.out⟩, ⟨zT⟩⟩
     rw [if_pos c15] at H
     obtain ⟨c15b0, c15b1⟩ := zE c15; clear c15
     obtain ⟨t108, A16, H⟩ := zO H
     obtain ⟨t111, A17, H⟩ := zO H
     by_cases c18 : t111 = true
     rotate_left
     ·replace c18 := Bool.eq_false_iff.mpr c18
      subst c18
      rw [if_neg Bool.false_ne_true] at H
      have H' := Aside0.mk H
      clear H
      try go_wp2
      replace HO_19 := Aside0.mk (Kd.R_drew HO_19.out)
      replace BK101 := Aside0.mk (blk_drew BK101.out)
      replace BK107 := Aside0.mk (blk_drew BK107.out)
      replace HB := Aside0.mk (below_drew1 HB.out)
      refine start_ (n := 15) (S := fun w' => w'.cell? ⟨gb107, 0, none⟩ = some (.int .i64 ((rd_T107 t102 x21_1).f0)) ∧ w'.cell? ⟨gb107, 1, none⟩ = some (.int .i64 ((rd_T107 t102 x21_1).f1)) ∧ w'.cell? ⟨gb101, 0, none⟩ = some (.int .i64 a0_0) ∧ w'.cell? ⟨gb101, 1, none⟩ = some (.slice A0_1 l0_1.length c0_1)) (ds := []) #[false, false, false, false, false, false, false, false, false, false, false, false, false, false, false] (by kernel_rfl) rfl rfl ⟨(blk_cell BK107.out 0).trans rfl, (blk_cell BK107.out 1).trans rfl, (blk_cell BK101.out 0).trans rfl, (blk_cell BK101.out 1).trans rfl⟩ (fun hHeld => ?_); refine with_tabW gf_Field_Order.tab6 gf_Field_Order.bits6 (fun HT_ HW_ => ?_)
      generalize wr.drew = w24 at HO_19 BK101 BK107 HB hHeld ⊢
      refine zP 0 25 ?_; refine zP 1 26 ?_
      refine take_ (i := 2) (N := some 27) (v := ?_) (a' := ?_) #[true, true, true, false, false, false, false, false, false, false, false, false, false, false, false] rfl rfl (take_ofW HT_.out HW_.out (by kernel_rfl)) (fun _ _ _ h => h) (Or.inl ⟨by rfl, ?_⟩) hHeld ?_ ?_
      rotate_left
      ·rintro w' ⟨s0, s1, s2, s3⟩
       go_simp
       with_reducible rfl
      rotate_left
      ·simp only [Act.put, List.setIfInBounds_toArray, List.set_cons_zero, List.set_cons_succ, i64_w, i32_w]
       rfl
      refine zP 3 28 ?_; refine zP 4 29 ?_; refine zP 5 30 ?_; refine zP 7 32 ?_; refine zP 8 33 ?_; refine zP 9 34 ?_
      refine take_ (i := 6) (N := some 31) (v := ?_) (a' := ?_) #[true, true, true, true, true, true, true, true, true, true, false, false, false, false, false] rfl rfl (take_ofW HT_.out HW_.out (by kernel_rfl)) (fun _ _ _ h => h) (Or.inl ⟨by rfl, ?_⟩) hHeld ?_ ?_
      rotate_left
      ·rintro w' ⟨s0, s1, s2, s3⟩
       go_simp
       with_reducible rfl
      rotate_left
      ·simp only [Act.put, List.setIfInBounds_toArray, List.set_cons_zero, List.set_cons_succ, i64_w, i32_w]
       rfl
      refine take_ (i := 10) (N := some 35) (v := ?_) (a' := ?_) #[true, true, true, true, true, true, true, true, true, true, true, false, false, false, false] rfl rfl (take_ofW HT_.out HW_.out (by kernel_rfl)) (fun _ _ _ h => h) (Or.inl ⟨by rfl, ?_⟩) hHeld ?_ ?_
      rotate_left
      ·rintro w' ⟨s0, s1, s2, s3⟩
       go_simp
       with_reducible rfl
      rotate_left
      ·simp only [Act.put, List.setIfInBounds_toArray, List.set_cons_zero, List.set_cons_succ, i64_w, i32_w]
       rfl
      refine zP 11 36 ?_
      refine one_ (i := 12) (N := some 37) #[true, true, true, true, true, true, true, true, true, true, true, true, true, false, false] rfl rfl (one_of HT_.out (by kernel_rfl)) (by decide) (fun K hK => ?_)
      refine goes_ Try.func54 (by kernel_rfl) rfl #[.agg #[.int .i64 a0_0, .slice A0_1 l0_1.length c0_1], .slice A1 l1.length c1, .int .i64 (wrap64 (Int.tdiv x7_2 ((rd_T107 t102 x21_1).f0)))] (by rfl) rfl rfl (by (try simp only [List.map_toArray, List.map_cons, List.map_nil]); first | done | rfl | (simp only [List.length_drop, List.length_take]; rfl)) ?_
      with_reducible refine (gf_Field_Pow.calls k2 a0_0 _ _ l0_1 (fun k_ => k_ < w.heap.size) _ _ l1 (wrap64 (Int.tdiv x7_2 ((rd_T107 t102 x21_1).f0))) t108 _ ?side1 ?side2 ?side3 A16.out).mono ?_
      (case side1 => exact zC (Kd.C_below HR0_1.out HB.out))
      (case side2 => exact HC0_1.out)
      (case side3 => exact Kd.V_mk HC1.out (Kd.F_below (Kd.C_F (Kd.heap_int .i64) HR1.out) (zT)))
      rintro e w25 ⟨v109, rfl, ho0, hb⟩
      refine ⟨_, rfl, ?_⟩
      have HO110 := Aside0.mk (Kd.V_lower (Kd.V_mono (ok' := fun k_ => some k_ ≠ (.slice (some ad106) t102.length co7 : Value).ownBlock ∧ k_ ≠ gb101 ∧ k_ ≠ gb107) ho0 (fun k_ hk_ => ⟨Or.elim hk_ (fun hs_ => fun e_ => Nat.not_le.2 hs_ (Kd.R_base HO_19.out k_ e_.symm)) (fun hn_ => (Kd.fresh' (Kd.R_lt (zR HO_19.out)) k_ hn_)), Or.elim hk_ (fun hs_ => fun e_ => Nat.not_le.2 hs_ (by rw [e_]; exact GW101.out)) (fun hn_ => (Kd.freshB (zK BK101.out) k_ hn_)), Or.elim hk_ (fun hs_ => fun e_ => Nat.not_le.2 hs_ (by rw [e_]; exact GW107.out)) (fun hn_ => (Kd.freshB (zK BK107.out) k_ hn_))⟩)) (zS HB))
      replace HO_19 := zRb HO_19 hb
      replace BK101 := zKb BK101 hb
      replace BK107 := zKb BK107 hb
      replace HB := zBb HB hb
      (try clear hb)
      (try clear hb2)
      (try clear hk)
      (try clear hi)
      (try clear ho0)
      obtain ⟨Ao26, co26, eo26⟩ := Kd.V_slice HO110.out
      (first | subst eo26 | (injection eo26 with f1_ f2_ f3_; have f4_ := f1_.symm; have f5_ := f3_.symm; clear f1_ f2_ f3_; subst f4_; subst f5_))
      refine hK.out _ _ ⟨(blk_cell BK107.out 0).trans rfl, (blk_cell BK107.out 1).trans rfl, (blk_cell BK101.out 0).trans rfl, (blk_cell BK101.out 1).trans rfl⟩ (fun hHeld => ?_)
      clear hK K
      refine norm_ (a' := ?_) ?_ ?_
      rotate_left
      ·show Act.put _ (some 37) _ = _
       simp only [Act.put, List.setIfInBounds_toArray, List.set_cons_zero, List.set_cons_succ, i64_w, i32_w]
       rfl
      refine one_ (i := 13) (N := some 38) #[true, true, true, true, true, true, true, true, true, true, true, true, true, true, false] rfl rfl (one_of HT_.out (by kernel_rfl)) (by decide) (fun K hK => ?_)
      refine goes_ Try.func55 (by kernel_rfl) rfl #[.slice Ao26 t108.length co26] (by rfl) rfl rfl (by (try simp only [List.map_toArray, List.map_cons, List.map_nil]); first | done | rfl | (simp only [List.length_drop, List.length_take]; rfl)) ?_
      with_reducible refine (gf_IsOne.calls _ _ t108 false _ ?side1 ?side2 A17.out).mono ?_
      (case side1 => exact zC ((Kd.V_reads' HO110.out).2.2))
      (case side2 => exact (Kd.V_reads' HO110.out).2.1)
      rintro e w' ⟨rfl, ⟨nd, rfl⟩⟩
      refine ⟨_, rfl, ?_⟩
      refine hK.out _ _ ⟨(blk_cell BK107.out 0).trans rfl, (blk_cell BK107.out 1).trans rfl, (blk_cell BK101.out 0).trans rfl, (blk_cell BK101.out 1).trans rfl⟩ (fun hHeld => ?_)
      clear hK K
      refine norm_ (a' := ?_) ?_ ?_
      rotate_left
      ·show Act.put _ (some 38) _ = _
       simp only [Act.put, List.setIfInBounds_toArray, List.set_cons_zero, List.set_cons_succ, i64_w, i32_w]
       rfl
      refine zP 14 39 ?_
      refine done_ (done_of HT_.out (by kernel_rfl)) ?_
      try go_wp2
      go_roundg k2
      case measure => have := HK1.out; have := HK2.out; omega
      case rel => exact ⟨(x7_2), (wrap64 (x21_1 + 1)), zX, zX, H', ⟨by have := HK1.out; have := HK2.out; omega⟩, ⟨zR (Kd.R_mono HO_19.out (fun _ hk => trivial))⟩, ⟨zK BK101.out⟩, ⟨zT⟩⟩
     subst c18
     rw [if_pos rfl] at H
     have H' := Aside0.mk H
     clear H
     try go_wp2
     replace HO_19 := Aside0.mk (Kd.R_drew HO_19.out)
     replace BK101 := Aside0.mk (blk_drew BK101.out)
     replace BK107 := Aside0.mk (blk_drew BK107.out)
     replace HB := Aside0.mk (below_drew1 HB.out)
     refine start_ (n := 15) (S := fun w' => w'.cell? ⟨gb107, 0, none⟩ = some (.int .i64 ((rd_T107 t102 x21_1).f0)) ∧ w'.cell? ⟨gb107, 1, none⟩ = some (.int .i64 ((rd_T107 t102 x21_1).f1)) ∧ w'.cell? ⟨gb101, 0, none⟩ = some (.int .i64 a0_0) ∧ w'.cell? ⟨gb101, 1, none⟩ = some (.slice A0_1 l0_1.length c0_1)) (ds := []) #[false, false, false, false, false, false, false, false, false, false, false, false, false, false, false] (by kernel_rfl) rfl rfl ⟨(blk_cell BK107.out 0).trans rfl, (blk_cell BK107.out 1).trans rfl, (blk_cell BK101.out 0).trans rfl, (blk_cell BK101.out 1).trans rfl⟩ (fun hHeld => ?_); refine with_tabW gf_Field_Order.tab6 gf_Field_Order.bits6 (fun HT_ HW_ => ?_)
     generalize wr.drew = w19 at HO_19 BK101 BK107 HB hHeld ⊢
     refine zP 0 25 ?_; refine zP 1 26 ?_
     refine take_ (i := 2) (N := some 27) (v := ?_) (a' := ?_) #[true, true, true, false, false, false, false, false, false, false, false, false, false, false, false] rfl rfl (take_ofW HT_.out HW_.out (by kernel_rfl)) (fun _ _ _ h => h) (Or.inl ⟨by rfl, ?_⟩) hHeld ?_ ?_
     rotate_left
     ·rintro w' ⟨s0, s1, s2, s3⟩
      go_simp
      with_reducible rfl
     rotate_left
     ·simp only [Act.put, List.setIfInBounds_toArray, List.set_cons_zero, List.set_cons_succ, i64_w, i32_w]
      rfl
     refine zP 3 28 ?_; refine zP 4 29 ?_; refine zP 5 30 ?_; refine zP 7 32 ?_; refine zP 8 33 ?_; refine zP 9 34 ?_
     refine take_ (i := 6) (N := some 31) (v := ?_) (a' := ?_) #[true, true, true, true, true, true, true, true, true, true, false, false, false, false, false] rfl rfl (take_ofW HT_.out HW_.out (by kernel_rfl)) (fun _ _ _ h => h) (Or.inl ⟨by rfl, ?_⟩) hHeld ?_ ?_
     rotate_left
     ·rintro w' ⟨s0, s1, s2, s3⟩
      go_simp
      with_reducible rfl
     rotate_left
     ·simp only [Act.put, List.setIfInBounds_toArray, List.set_cons_zero, List.set_cons_succ, i64_w, i32_w]
      rfl
     refine take_ (i := 10) (N := some 35) (v := ?_) (a' := ?_) #[true, true, true, true, true, true, true, true, true, true, true, false, false, false, false] rfl rfl (take_ofW HT_.out HW_.out (by kernel_rfl)) (fun _ _ _ h => h) (Or.inl ⟨by rfl, ?_⟩) hHeld ?_ ?_
     rotate_left
     ·rintro w' ⟨s0, s1, s2, s3⟩
      go_simp
      with_reducible rfl
     rotate_left
     ·simp only [Act.put, List.setIfInBounds_toArray, List.set_cons_zero, List.set_cons_succ, i64_w, i32_w]
      rfl
     refine zP 11 36 ?_
     refine one_ (i := 12) (N := some 37) #[true, true, true, true, true, true, true, true, true, true, true, true, true, false, false] rfl rfl (one_of HT_.out (by kernel_rfl)) (by decide) (fun K hK => ?_)
     refine goes_ Try.func54 (by kernel_rfl) rfl #[.agg #[.int .i64 a0_0, .slice A0_1 l0_1.length c0_1], .slice A1 l1.length c1, .int .i64 (wrap64 (Int.tdiv x7_2 ((rd_T107 t102 x21_1).f0)))] (by rfl) rfl rfl (by (try simp only [List.map_toArray, List.map_cons, List.map_nil]); first | done | rfl | (simp only [List.length_drop, List.length_take]; rfl)) ?_
     with_reducible refine (gf_Field_Pow.calls k2 a0_0 _ _ l0_1 (fun k_ => k_ < w.heap.size) _ _ l1 (wrap64 (Int.tdiv x7_2 ((rd_T107 t102 x21_1).f0))) t108 _ ?side1 ?side2 ?side3 A16.out).mono ?_
     (case side1 => exact zC (Kd.C_below HR0_1.out HB.out))
     (case side2 => exact HC0_1.out)
     (case side3 => exact Kd.V_mk HC1.out (Kd.F_below (Kd.C_F (Kd.heap_int .i64) HR1.out) (zT)))
     rintro e w20 ⟨v109, rfl, ho0, hb⟩
     refine ⟨_, rfl, ?_⟩
     have HO110 := Aside0.mk (Kd.V_lower (Kd.V_mono (ok' := fun k_ => some k_ ≠ (.slice (some ad106) t102.length co7 : Value).ownBlock ∧ k_ ≠ gb101 ∧ k_ ≠ gb107) ho0 (fun k_ hk_ => ⟨Or.elim hk_ (fun hs_ => fun e_ => Nat.not_le.2 hs_ (Kd.R_base HO_19.out k_ e_.symm)) (fun hn_ => (Kd.fresh' (Kd.R_lt (zR HO_19.out)) k_ hn_)), Or.elim hk_ (fun hs_ => fun e_ => Nat.not_le.2 hs_ (by rw [e_]; exact GW101.out)) (fun hn_ => (Kd.freshB (zK BK101.out) k_ hn_)), Or.elim hk_ (fun hs_ => fun e_ => Nat.not_le.2 hs_ (by rw [e_]; exact GW107.out)) (fun hn_ => (Kd.freshB (zK BK107.out) k_ hn_))⟩)) (zS HB))
     replace HO_19 := zRb HO_19 hb
     replace BK101 := zKb BK101 hb
     replace BK107 := zKb BK107 hb
     replace HB := zBb HB hb
     (try clear hb)
     (try clear hb2)
     (try clear hk)
     (try clear hi)
     (try clear ho0)
     obtain ⟨Ao21, co21, eo21⟩ := Kd.V_slice HO110.out
     (first | subst eo21 | (injection eo21 with f1_ f2_ f3_; have f4_ := f1_.symm; have f5_ := f3_.symm; clear f1_ f2_ f3_; subst f4_; subst f5_))
     refine hK.out _ _ ⟨(blk_cell BK107.out 0).trans rfl, (blk_cell BK107.out 1).trans rfl, (blk_cell BK101.out 0).trans rfl, (blk_cell BK101.out 1).trans rfl⟩ (fun hHeld => ?_)
     clear hK K
     refine norm_ (a' := ?_) ?_ ?_
     rotate_left
     ·show Act.put _ (some 37) _ = _
      simp only [Act.put, List.setIfInBounds_toArray, List.set_cons_zero, List.set_cons_succ, i64_w, i32_w]
      rfl
     refine one_ (i := 13) (N := some 38) #[true, true, true, true, true, true, true, true, true, true, true, true, true, true, false] rfl rfl (one_of HT_.out (by kernel_rfl)) (by decide) (fun K hK => ?_)
     refine goes_ Try.func55 (by kernel_rfl) rfl #[.slice Ao21 t108.length co21] (by rfl) rfl rfl (by (try simp only [List.map_toArray, List.map_cons, List.map_nil]); first | done | rfl | (simp only [List.length_drop, List.length_take]; rfl)) ?_
     with_reducible refine (gf_IsOne.calls _ _ t108 true _ ?side1 ?side2 A17.out).mono ?_
     (case side1 => exact zC ((Kd.V_reads' HO110.out).2.2))
     (case side2 => exact (Kd.V_reads' HO110.out).2.1)
     rintro e w' ⟨rfl, ⟨nd, rfl⟩⟩
     refine ⟨_, rfl, ?_⟩
     refine hK.out _ _ ⟨(blk_cell BK107.out 0).trans rfl, (blk_cell BK107.out 1).trans rfl, (blk_cell BK101.out 0).trans rfl, (blk_cell BK101.out 1).trans rfl⟩ (fun hHeld => ?_)
     clear hK K
     refine norm_ (a' := ?_) ?_ ?_
     rotate_left
     ·show Act.put _ (some 38) _ = _
      simp only [Act.put, List.setIfInBounds_toArray, List.set_cons_zero, List.set_cons_succ, i64_w, i32_w]
      rfl
     refine zP 14 39 ?_
     refine done_ (done_of HT_.out (by kernel_rfl)) ?_
     have hnb22 := NB107_101.out
     have hnc22 := NB101_107.out
     have hcz23_0 := zc BK107 0
     have hcz23_1 := zc BK107 1
     have hfz23_0 := blk_frozen BK107.out 0
     have hfz23_1 := blk_frozen BK107.out 1
     try go_wp2
     go_roundg k2
     case measure => have := HK1.out; have := HK2.out; omega
     case rel => exact ⟨(wrap64 (Int.tdiv x7_2 ((rd_T107 t102 x21_1).f0))), zX, H', ⟨by have := HK1.out; have := HK2.out; omega⟩, ⟨zR HO_19.out⟩, ⟨zK BK101.out⟩, ⟨zK BK107.out⟩, ⟨zT⟩⟩
end Go.Proofs.Ytalnaafmonmlmaa.Q
end
section
namespace Go.Proofs.Ytalnaafmonmlmaa.Q
open Go.RowKit Go.Proofs.YtalnaafmonmlmaaW.PrintWords Go.Proofs.YtalnaafmonmlmaaW.PrintLast Go.Proofs.YtalnaafmonmlmaaW.PrintMore
attribute [local go_sem] max2_int min2_int max_two min_two max_three min_three max_four min_four
set_option linter.unusedVariables false
set_option linter.unusedSimpArgs false
set_option maxHeartbeats 8000000
set_option maxRecDepth 100000
def finitefield_Order.f (k : Nat) (a0_0 : Int) (l0_1 : List Int) (l1 : List Int) : Option (Int × Int) := (finitefield_check.f k a0_0 l0_1 (([l1] : List (List Int)))).bind fun t105 => (if t105 = 0 then ((finitefield_size.f k a0_0 l0_1 2147483647).bind fun bt106 => (if bt106.2 = 0 then (if (l1.length : Int) = 0 then (some (0, 6)) else ((gf_Field_Order.f k a0_0 l0_1 l1 bt106.1).bind fun t108 => (some (t108, 0)))) else (some (0, bt106.2)))) else (some (0, t105)))
theorem finitefield_Order.mono : ∀ a0 a1 a2 k, LeO (finitefield_Order.f k a0 a1 a2) (finitefield_Order.f (k + 1) a0 a1 a2) := by
 intro a0 a1 a2 k
 unfold finitefield_Order.f
 with_reducible repeat' first | exact finitefield_check.mono _ _ _ _ | exact finitefield_size.mono _ _ _ _ | exact gf_Field_Order.mono _ _ _ _ _ | exact LeO.refl _ | exact LeO.none _ | refine LeO.ite ?_ ?_ | refine LeO.bind ?_ (fun _ => ?_)
theorem finitefield_Order.calls (k : Nat) (a0_0 : Int) (A0_1 : Option Addr) (c0_1 : Nat) (l0_1 : List Int) (P1_ : Nat → Prop) (A1 : Option Addr) (c1 : Nat) (l1 : List Int) (r1 : Int) (r2 : Int) (w : World) (hr0_1 : Kd.C (Kd.int .i64) w A0_1 l0_1.length l0_1) (hc0_1 : l0_1.length ≤ c0_1) (hs1 : Kd.V (Kd.int .i64) 3 w w.heap.size (fun k_ => P1_ k_) (.slice A1 l1.length c1) l1) (h : finitefield_Order.f k a0_0 l0_1 l1 = some (r1, r2)) :
  Calls Try.prog 37 #[.agg #[.int .i64 a0_0, .slice A0_1 l0_1.length c0_1], .slice A1 l1.length c1] w fun e w' => e = .returned (.tuple #[.int .i64 r1, .int .i64 r2]) ∧ Below w.heap.size w w' := by
 have hu33 := Try.underlying33
 have hu68 := Try.underlying68
 have HR0_1 := Aside0.mk hr0_1
 have HC0_1 := Aside0.mk hc0_1
 clear hr0_1 hc0_1
 have HO1 := Aside0.mk (show Kd.V (Kd.int .i64) 3 w w.heap.size (fun k_ => (P1_ k_ ∨ w.heap.size ≤ k_)) (.slice A1 l1.length c1) l1 from Kd.V_mono hs1 (fun k_ hk => .inl hk))
 have HB := Aside0.mk (Below.refl w.heap.size w)
 have H := h; clear h; unfold finitefield_Order.f at H
 obtain ⟨y102, Ny102⟩ := zA ((([l1] : List (List Int))) : List (List Int)); rw [← Ny102.out] at H
 obtain ⟨t105, A3, H⟩ := zO H
 by_cases c4 : t105 = 0
 rotate_left
 ·rw [if_neg c4] at H
  obtain ⟨c4b0, c4b1⟩ := zU c4
  simp only [Option.some.injEq, Prod.mk.injEq] at H
  obtain ⟨rfl, rfl⟩ := H
  go_enter Try.func37, Try.ntmps37
  go_wp2_with (first | ((with_reducible refine gate_dst (N := 2) rfl ?_); refine zb 2 #[.int .i64 a0_0, .slice A0_1 l0_1.length c0_1] 33 ?_; intro gb101 hg w35 hbox hb; replace HO1 := Aside0.mk (Kd.V_below (Kd.V_elderB (zV HO1.out) gb101 (Nat.le_of_eq hg.symm)) hb); have BK101 := Aside0.mk (hbox); have GW101 := zg HB hg; have GE101 := GW101; replace HB := zBb HB hb; clear hb hbox hg; have hcz36_0 := zc BK101 0; have hcz36_1 := zc BK101 1; have hfz36_0 := blk_frozen BK101.out 0; have hfz36_1 := blk_frozen BK101.out 1) | ((with_reducible refine gate_dst (N := 11) rfl ?_); refine Kd.N_lit (Kd.slice 3 (Kd.int .i64)) _ 25 ?hg (N' := 11) ?hd (xs := ([l1] : List (List Int))) (inner := [.slice A1 l1.length c1]) (ok := (fun k_ => (P1_ k_ ∨ w.heap.size ≤ k_) ∧ k_ ≠ gb101)) (okp := (fun k_ => (P1_ k_ ∨ w.heap.size ≤ k_) ∧ k_ ≠ gb101)) ?hr ?hp (fun _ hk => hk) ((show ∀ k_, w35.heap.size ≤ k_ → (fun k_ => (P1_ k_ ∨ w.heap.size ≤ k_) ∧ k_ ≠ gb101) k_ from fun k_ hk => ⟨(.inr (Nat.le_trans (zS HB) hk)), Kd.freshB (zK BK101.out) k_ hk⟩) _ (Nat.le_refl _)) (Below.refl _ _) (Nat.le_refl _) (by simp) ?_; (case hd => rfl); (case hg => rfl); (case hr => go_simp <;> rfl); (case hp => exact (Reps.one (show Kd.FK (Kd.slice 3 (Kd.int .i64)) _ _ l1 [.slice A1 l1.length c1] from (Kd.FK_slice_mk (Kd.V_reads' (Kd.V_mono (ok' := (fun k_ => (P1_ k_ ∨ w.heap.size ≤ k_) ∧ k_ ≠ gb101)) (HO1.out) (fun k_ hk => ⟨hk.1, hk.2⟩))).2.1 (Kd.V_F (Kd.V_mono (ok' := (fun k_ => (P1_ k_ ∨ w.heap.size ≤ k_) ∧ k_ ≠ gb101)) (HO1.out) (fun k_ hk => ⟨hk.1, hk.2⟩))))) (Reps.none _ _))); intro v103 w37 ho38 hb hg_ hnew_; clear hg_ hnew_; (first | rw [← Ny102.out] at ho38 | (simp only [Int.reduceToNat] at ho38; rw [← Ny102.out] at ho38)); replace HO1 := Aside0.mk (Kd.V_elder' (zV HO1.out) (Kd.N_base ho38) hb); have HO104 := Aside0.mk (Kd.N_lower ho38 (zS HB)); replace BK101 := zKb BK101 hb; replace HB := zBb HB hb; clear hb ho38; obtain ⟨Ao39, co39, eo39⟩ := Kd.N_slice HO104.out; subst eo39) | ((with_reducible refine gate_callee (f := 53) rfl ?_); refine zG (some 12) Try.func53 #[.agg #[.int .i64 a0_0, .slice A0_1 l0_1.length c0_1], .slice Ao39 y102.length co39] ?_; (with_reducible refine (finitefield_check.calls k a0_0 _ _ l0_1 _ _ y102 t105 _ ?side1 ?side2 ?side3 ?side4 A3.out).mono ?_); (case side1 => exact zC (Kd.C_below HR0_1.out HB.out)); (case side2 => exact HC0_1.out); (case side3 => exact zC ((Kd.N_reads' HO104.out).2.2)); (case side4 => exact (Kd.N_reads' HO104.out).2.1); rintro e w40 ⟨rfl, hb⟩; refine ⟨_, rfl, ?_⟩; replace HO1 := zVb HO1 hb; replace HO104 := zNb HO104 hb; replace BK101 := zKb BK101 hb; replace HB := zBb HB hb; (try clear hb)))
  go_ret2
  exact ⟨zQ, zT⟩
 rw [if_pos c4] at H
 obtain ⟨c4b0, c4b1⟩ := zE c4; clear c4
 obtain ⟨⟨t106, t107⟩, A5, H⟩ := zO H; try dsimp only at H
 by_cases c6 : t107 = 0
 rotate_left
 ·rw [if_neg c6] at H
  obtain ⟨c6b0, c6b1⟩ := zU c6
  simp only [Option.some.injEq, Prod.mk.injEq] at H
  obtain ⟨rfl, rfl⟩ := H
  go_enter Try.func37, Try.ntmps37
  go_wp2_with (first | ((with_reducible refine gate_dst (N := 2) rfl ?_); refine zb 2 #[.int .i64 a0_0, .slice A0_1 l0_1.length c0_1] 33 ?_; intro gb101 hg w27 hbox hb; replace HO1 := Aside0.mk (Kd.V_below (Kd.V_elderB (zV HO1.out) gb101 (Nat.le_of_eq hg.symm)) hb); have BK101 := Aside0.mk (hbox); have GW101 := zg HB hg; have GE101 := GW101; replace HB := zBb HB hb; clear hb hbox hg; have hcz28_0 := zc BK101 0; have hcz28_1 := zc BK101 1; have hfz28_0 := blk_frozen BK101.out 0; have hfz28_1 := blk_frozen BK101.out 1) | ((with_reducible refine gate_dst (N := 11) rfl ?_); refine Kd.N_lit (Kd.slice 3 (Kd.int .i64)) _ 25 ?hg (N' := 11) ?hd (xs := ([l1] : List (List Int))) (inner := [.slice A1 l1.length c1]) (ok := (fun k_ => (P1_ k_ ∨ w.heap.size ≤ k_) ∧ k_ ≠ gb101)) (okp := (fun k_ => (P1_ k_ ∨ w.heap.size ≤ k_) ∧ k_ ≠ gb101)) ?hr ?hp (fun _ hk => hk) ((show ∀ k_, w27.heap.size ≤ k_ → (fun k_ => (P1_ k_ ∨ w.heap.size ≤ k_) ∧ k_ ≠ gb101) k_ from fun k_ hk => ⟨(.inr (Nat.le_trans (zS HB) hk)), Kd.freshB (zK BK101.out) k_ hk⟩) _ (Nat.le_refl _)) (Below.refl _ _) (Nat.le_refl _) (by simp) ?_; (case hd => rfl); (case hg => rfl); (case hr => go_simp <;> rfl); (case hp => exact (Reps.one (show Kd.FK (Kd.slice 3 (Kd.int .i64)) _ _ l1 [.slice A1 l1.length c1] from (Kd.FK_slice_mk (Kd.V_reads' (Kd.V_mono (ok' := (fun k_ => (P1_ k_ ∨ w.heap.size ≤ k_) ∧ k_ ≠ gb101)) (HO1.out) (fun k_ hk => ⟨hk.1, hk.2⟩))).2.1 (Kd.V_F (Kd.V_mono (ok' := (fun k_ => (P1_ k_ ∨ w.heap.size ≤ k_) ∧ k_ ≠ gb101)) (HO1.out) (fun k_ hk => ⟨hk.1, hk.2⟩))))) (Reps.none _ _))); intro v103 w29 ho30 hb hg_ hnew_; clear hg_ hnew_; (first | rw [← Ny102.out] at ho30 | (simp only [Int.reduceToNat] at ho30; rw [← Ny102.out] at ho30)); replace HO1 := Aside0.mk (Kd.V_elder' (zV HO1.out) (Kd.N_base ho30) hb); have HO104 := Aside0.mk (Kd.N_lower ho30 (zS HB)); replace BK101 := zKb BK101 hb; replace HB := zBb HB hb; clear hb ho30; obtain ⟨Ao31, co31, eo31⟩ := Kd.N_slice HO104.out; subst eo31) | ((with_reducible refine gate_callee (f := 53) rfl ?_); refine zG (some 12) Try.func53 #[.agg #[.int .i64 a0_0, .slice A0_1 l0_1.length c0_1], .slice Ao31 y102.length co31] ?_; (with_reducible refine (finitefield_check.calls k a0_0 _ _ l0_1 _ _ y102 t105 _ ?side1 ?side2 ?side3 ?side4 A3.out).mono ?_); (case side1 => exact zC (Kd.C_below HR0_1.out HB.out)); (case side2 => exact HC0_1.out); (case side3 => exact zC ((Kd.N_reads' HO104.out).2.2)); (case side4 => exact (Kd.N_reads' HO104.out).2.1); rintro e w32 ⟨rfl, hb⟩; refine ⟨_, rfl, ?_⟩; replace HO1 := zVb HO1 hb; replace HO104 := zNb HO104 hb; replace BK101 := zKb BK101 hb; replace HB := zBb HB hb; (try clear hb); have hcz33_0 := zc BK101 0; have hcz33_1 := zc BK101 1; have hfz33_0 := blk_frozen BK101.out 0; have hfz33_1 := blk_frozen BK101.out 1) | ((with_reducible refine gate_callee (f := 51) rfl ?_); refine zG (some 18) Try.func51 #[.agg #[.int .i64 a0_0, .slice A0_1 l0_1.length c0_1], .int .i64 2147483647] ?_; (with_reducible refine (finitefield_size.calls k a0_0 _ _ l0_1 2147483647 t106 t107 _ ?side1 ?side2 A5.out).mono ?_); (case side1 => exact zC ((Kd.C_below HR0_1.out HB.out))); (case side2 => exact HC0_1.out); rintro e w34 ⟨rfl, hb⟩; refine ⟨_, rfl, ?_⟩; replace HO1 := zVb HO1 hb; replace HO104 := zNb HO104 hb; replace BK101 := zKb BK101 hb; replace HB := zBb HB hb; (try clear hb)))
  go_ret2
  exact ⟨zQ, zT⟩
 rw [if_pos c6] at H
 obtain ⟨c6b0, c6b1⟩ := zE c6; clear c6
 by_cases c7 : (l1.length : Int) = 0
 ·rw [if_pos c7] at H
  obtain ⟨c7b0, c7b1⟩ := zE c7; clear c7
  simp only [Option.some.injEq, Prod.mk.injEq] at H
  obtain ⟨rfl, rfl⟩ := H
  go_enter Try.func37, Try.ntmps37
  go_wp2_with (first | ((with_reducible refine gate_dst (N := 2) rfl ?_); refine zb 2 #[.int .i64 a0_0, .slice A0_1 l0_1.length c0_1] 33 ?_; intro gb101 hg w8 hbox hb; replace HO1 := Aside0.mk (Kd.V_below (Kd.V_elderB (zV HO1.out) gb101 (Nat.le_of_eq hg.symm)) hb); have BK101 := Aside0.mk (hbox); have GW101 := zg HB hg; have GE101 := GW101; replace HB := zBb HB hb; clear hb hbox hg; have hcz9_0 := zc BK101 0; have hcz9_1 := zc BK101 1; have hfz9_0 := blk_frozen BK101.out 0; have hfz9_1 := blk_frozen BK101.out 1) | ((with_reducible refine gate_dst (N := 11) rfl ?_); refine Kd.N_lit (Kd.slice 3 (Kd.int .i64)) _ 25 ?hg (N' := 11) ?hd (xs := ([l1] : List (List Int))) (inner := [.slice A1 l1.length c1]) (ok := (fun k_ => (P1_ k_ ∨ w.heap.size ≤ k_) ∧ k_ ≠ gb101)) (okp := (fun k_ => (P1_ k_ ∨ w.heap.size ≤ k_) ∧ k_ ≠ gb101)) ?hr ?hp (fun _ hk => hk) ((show ∀ k_, w8.heap.size ≤ k_ → (fun k_ => (P1_ k_ ∨ w.heap.size ≤ k_) ∧ k_ ≠ gb101) k_ from fun k_ hk => ⟨(.inr (Nat.le_trans (zS HB) hk)), Kd.freshB (zK BK101.out) k_ hk⟩) _ (Nat.le_refl _)) (Below.refl _ _) (Nat.le_refl _) (by simp) ?_; (case hd => rfl); (case hg => rfl); (case hr => go_simp <;> rfl); (case hp => exact (Reps.one (show Kd.FK (Kd.slice 3 (Kd.int .i64)) _ _ l1 [.slice A1 l1.length c1] from (Kd.FK_slice_mk (Kd.V_reads' (Kd.V_mono (ok' := (fun k_ => (P1_ k_ ∨ w.heap.size ≤ k_) ∧ k_ ≠ gb101)) (HO1.out) (fun k_ hk => ⟨hk.1, hk.2⟩))).2.1 (Kd.V_F (Kd.V_mono (ok' := (fun k_ => (P1_ k_ ∨ w.heap.size ≤ k_) ∧ k_ ≠ gb101)) (HO1.out) (fun k_ hk => ⟨hk.1, hk.2⟩))))) (Reps.none _ _))); intro v103 w10 ho11 hb hg_ hnew_; clear hg_ hnew_; (first | rw [← Ny102.out] at ho11 | (simp only [Int.reduceToNat] at ho11; rw [← Ny102.out] at ho11)); replace HO1 := Aside0.mk (Kd.V_elder' (zV HO1.out) (Kd.N_base ho11) hb); have HO104 := Aside0.mk (Kd.N_lower ho11 (zS HB)); replace BK101 := zKb BK101 hb; replace HB := zBb HB hb; clear hb ho11; obtain ⟨Ao12, co12, eo12⟩ := Kd.N_slice HO104.out; subst eo12) | ((with_reducible refine gate_callee (f := 53) rfl ?_); refine zG (some 12) Try.func53 #[.agg #[.int .i64 a0_0, .slice A0_1 l0_1.length c0_1], .slice Ao12 y102.length co12] ?_; (with_reducible refine (finitefield_check.calls k a0_0 _ _ l0_1 _ _ y102 t105 _ ?side1 ?side2 ?side3 ?side4 A3.out).mono ?_); (case side1 => exact zC (Kd.C_below HR0_1.out HB.out)); (case side2 => exact HC0_1.out); (case side3 => exact zC ((Kd.N_reads' HO104.out).2.2)); (case side4 => exact (Kd.N_reads' HO104.out).2.1); rintro e w13 ⟨rfl, hb⟩; refine ⟨_, rfl, ?_⟩; replace HO1 := zVb HO1 hb; replace HO104 := zNb HO104 hb; replace BK101 := zKb BK101 hb; replace HB := zBb HB hb; (try clear hb); have hcz14_0 := zc BK101 0; have hcz14_1 := zc BK101 1; have hfz14_0 := blk_frozen BK101.out 0; have hfz14_1 := blk_frozen BK101.out 1) | ((with_reducible refine gate_callee (f := 51) rfl ?_); refine zG (some 18) Try.func51 #[.agg #[.int .i64 a0_0, .slice A0_1 l0_1.length c0_1], .int .i64 2147483647] ?_; (with_reducible refine (finitefield_size.calls k a0_0 _ _ l0_1 2147483647 t106 t107 _ ?side1 ?side2 A5.out).mono ?_); (case side1 => exact zC ((Kd.C_below HR0_1.out HB.out))); (case side2 => exact HC0_1.out); rintro e w15 ⟨rfl, hb⟩; refine ⟨_, rfl, ?_⟩; replace HO1 := zVb HO1 hb; replace HO104 := zNb HO104 hb; replace BK101 := zKb BK101 hb; replace HB := zBb HB hb; (try clear hb)))
  go_ret2
  exact ⟨zQ, zT⟩
 rw [if_neg c7] at H
 obtain ⟨c7b0, c7b1⟩ := zU c7
 have c7b2 : ¬ (l1 = []) := fun h_ => c7 (by rw [h_]; rfl)
 obtain ⟨t108, A16, H⟩ := zO H
 simp only [Option.some.injEq, Prod.mk.injEq] at H
 obtain ⟨rfl, rfl⟩ := H
 go_enter Try.func37, Try.ntmps37
 go_wp2_with (first | ((with_reducible refine gate_dst (N := 2) rfl ?_); refine zb 2 #[.int .i64 a0_0, .slice A0_1 l0_1.length c0_1] 33 ?_; intro gb101 hg w17 hbox hb; replace HO1 := Aside0.mk (Kd.V_below (Kd.V_elderB (zV HO1.out) gb101 (Nat.le_of_eq hg.symm)) hb); have BK101 := Aside0.mk (hbox); have GW101 := zg HB hg; have GE101 := GW101; replace HB := zBb HB hb; clear hb hbox hg; have hcz18_0 := zc BK101 0; have hcz18_1 := zc BK101 1; have hfz18_0 := blk_frozen BK101.out 0; have hfz18_1 := blk_frozen BK101.out 1) | ((with_reducible refine gate_dst (N := 11) rfl ?_); refine Kd.N_lit (Kd.slice 3 (Kd.int .i64)) _ 25 ?hg (N' := 11) ?hd (xs := ([l1] : List (List Int))) (inner := [.slice A1 l1.length c1]) (ok := (fun k_ => (P1_ k_ ∨ w.heap.size ≤ k_) ∧ k_ ≠ gb101)) (okp := (fun k_ => (P1_ k_ ∨ w.heap.size ≤ k_) ∧ k_ ≠ gb101)) ?hr ?hp (fun _ hk => hk) ((show ∀ k_, w17.heap.size ≤ k_ → (fun k_ => (P1_ k_ ∨ w.heap.size ≤ k_) ∧ k_ ≠ gb101) k_ from fun k_ hk => ⟨(.inr (Nat.le_trans (zS HB) hk)), Kd.freshB (zK BK101.out) k_ hk⟩) _ (Nat.le_refl _)) (Below.refl _ _) (Nat.le_refl _) (by simp) ?_; (case hd => rfl); (case hg => rfl); (case hr => go_simp <;> rfl); (case hp => exact (Reps.one (show Kd.FK (Kd.slice 3 (Kd.int .i64)) _ _ l1 [.slice A1 l1.length c1] from (Kd.FK_slice_mk (Kd.V_reads' (Kd.V_mono (ok' := (fun k_ => (P1_ k_ ∨ w.heap.size ≤ k_) ∧ k_ ≠ gb101)) (HO1.out) (fun k_ hk => ⟨hk.1, hk.2⟩))).2.1 (Kd.V_F (Kd.V_mono (ok' := (fun k_ => (P1_ k_ ∨ w.heap.size ≤ k_) ∧ k_ ≠ gb101)) (HO1.out) (fun k_ hk => ⟨hk.1, hk.2⟩))))) (Reps.none _ _))); intro v103 w19 ho20 hb hg_ hnew_; clear hg_ hnew_; (first | rw [← Ny102.out] at ho20 | (simp only [Int.reduceToNat] at ho20; rw [← Ny102.out] at ho20)); replace HO1 := Aside0.mk (Kd.V_elder' (zV HO1.out) (Kd.N_base ho20) hb); have HO104 := Aside0.mk (Kd.N_lower ho20 (zS HB)); replace BK101 := zKb BK101 hb; replace HB := zBb HB hb; clear hb ho20; obtain ⟨Ao21, co21, eo21⟩ := Kd.N_slice HO104.out; subst eo21) | ((with_reducible refine gate_callee (f := 53) rfl ?_); refine zG (some 12) Try.func53 #[.agg #[.int .i64 a0_0, .slice A0_1 l0_1.length c0_1], .slice Ao21 y102.length co21] ?_; (with_reducible refine (finitefield_check.calls k a0_0 _ _ l0_1 _ _ y102 t105 _ ?side1 ?side2 ?side3 ?side4 A3.out).mono ?_); (case side1 => exact zC (Kd.C_below HR0_1.out HB.out)); (case side2 => exact HC0_1.out); (case side3 => exact zC ((Kd.N_reads' HO104.out).2.2)); (case side4 => exact (Kd.N_reads' HO104.out).2.1); rintro e w22 ⟨rfl, hb⟩; refine ⟨_, rfl, ?_⟩; replace HO1 := zVb HO1 hb; replace HO104 := zNb HO104 hb; replace BK101 := zKb BK101 hb; replace HB := zBb HB hb; (try clear hb); have hcz23_0 := zc BK101 0; have hcz23_1 := zc BK101 1; have hfz23_0 := blk_frozen BK101.out 0; have hfz23_1 := blk_frozen BK101.out 1) | ((with_reducible refine gate_callee (f := 51) rfl ?_); refine zG (some 18) Try.func51 #[.agg #[.int .i64 a0_0, .slice A0_1 l0_1.length c0_1], .int .i64 2147483647] ?_; (with_reducible refine (finitefield_size.calls k a0_0 _ _ l0_1 2147483647 t106 t107 _ ?side1 ?side2 A5.out).mono ?_); (case side1 => exact zC ((Kd.C_below HR0_1.out HB.out))); (case side2 => exact HC0_1.out); rintro e w24 ⟨rfl, hb⟩; refine ⟨_, rfl, ?_⟩; replace HO1 := zVb HO1 hb; replace HO104 := zNb HO104 hb; replace BK101 := zKb BK101 hb; replace HB := zBb HB hb; (try clear hb); have hcz25_0 := zc BK101 0; have hcz25_1 := zc BK101 1; have hfz25_0 := blk_frozen BK101.out 0; have hfz25_1 := blk_frozen BK101.out 1) | ((with_reducible refine gate_callee (f := 73) rfl ?_); refine zG (some 31) Try.func73 #[.agg #[.int .i64 a0_0, .slice A0_1 l0_1.length c0_1], .slice A1 l1.length c1, .int .i64 t106] ?_; (with_reducible refine (gf_Field_Order.calls k a0_0 _ _ l0_1 _ _ l1 t106 t108 _ ?side1 ?side2 ?side3 ?side4 A16.out).mono ?_); (case side1 => exact zC (Kd.C_below HR0_1.out HB.out)); (case side2 => exact HC0_1.out); (case side3 => exact zC ((Kd.V_reads' HO1.out).2.2)); (case side4 => exact (Kd.V_reads' HO1.out).2.1); rintro e w26 ⟨rfl, hb⟩; refine ⟨_, rfl, ?_⟩; replace HO1 := zVb HO1 hb; replace HO104 := zNb HO104 hb; replace BK101 := zKb BK101 hb; replace HB := zBb HB hb; (try clear hb)))
 go_ret2
 exact ⟨zQ, zT⟩
end Go.Proofs.Ytalnaafmonmlmaa.Q
end
section
namespace Go.Proofs.Ytalnaafmonmlmaa.Q
open Go.RowKit Go.Proofs.YtalnaafmonmlmaaW.PrintWords Go.Proofs.YtalnaafmonmlmaaW.PrintLast Go.Proofs.YtalnaafmonmlmaaW.PrintMore
attribute [local go_sem] max2_int min2_int max_two min_two max_three min_three max_four min_four
set_option linter.unusedVariables false
set_option linter.unusedSimpArgs false
set_option maxHeartbeats 8000000
set_option maxRecDepth 100000
def galoislaw15_four.f  : Option (Int × List Int) := some (2, (([1, 1, 1] : List Int)))
theorem galoislaw15_four.calls  (r1 : Int) (r2 : List Int) (w : World) (h : galoislaw15_four.f  = some (r1, r2)) :
  Calls Try.prog 42 #[] w fun e w' => ∃ v1_ : Value, e = .returned (.agg #[.int .i64 r1, v1_]) ∧ Kd.R (Kd.int .i64) 3 w' w.heap.size (fun _ => True) v1_ r2 ∧ Below w.heap.size w w' := by
 have hu33 := Try.underlying33
 have HB := Aside0.mk (Below.refl w.heap.size w)
 have H := h; clear h; unfold galoislaw15_four.f at H
 obtain ⟨y102, Ny102⟩ := zA ((([1, 1, 1] : List Int)) : List Int); rw [← Ny102.out] at H
 simp only [Option.some.injEq, Prod.mk.injEq] at H
 obtain ⟨rfl, rfl⟩ := H
 go_enter Try.func42, Try.ntmps42
 go_wp2_with (first | ((with_reducible refine gate_dst (N := 0) rfl ?_); refine zb 0 #[.int .i64 0, .slice none 0 0] 33 ?_; intro gb101 hg w1 hbox hb; have BK101 := Aside0.mk (hbox); have GW101 := zg HB hg; have GE101 := GW101; replace HB := zBb HB hb; clear hb hbox hg) | ((with_reducible refine gate_dst (N := 1) rfl ?_); refine Kd.R_lit (Kd.int .i64) _ 3 ?hg (N := 1) ?hd (xs := ([1, 1, 1] : List Int)) (inner := [.int .i64 1, .int .i64 1, .int .i64 1]) (ok := fun _ => True) (okp := fun _ => True) ?hr ?hp (fun _ hk => hk) trivial (Below.refl _ _) (Nat.le_refl _) (by simp) ?_; (case hd => rfl); (case hg => rfl); (case hr => go_simp <;> rfl); (case hp => exact (Reps.one (show Kd.M (Kd.int .i64) _ _ _ 1 [.int .i64 1] from rfl) (Reps.one (show Kd.M (Kd.int .i64) _ _ _ 1 [.int .i64 1] from rfl) (Reps.one (show Kd.M (Kd.int .i64) _ _ _ 1 [.int .i64 1] from rfl) (Reps.none _ _))))); intro v103 w2 ho3 hb hg_ hnew_; clear hg_ hnew_; (first | rw [← Ny102.out] at ho3 | (simp only [Int.reduceToNat] at ho3; rw [← Ny102.out] at ho3)); have HO104 := Aside0.mk (Kd.R_lower ho3 (zS HB)); replace BK101 := zKb BK101 hb; replace HB := zBb HB hb; clear hb ho3; obtain ⟨Ao4, co4, eo4⟩ := Kd.R_slice HO104.out; subst eo4; have hcz5_0 := zc BK101 0; have hcz5_1 := zc BK101 1; have hfz5_0 := blk_frozen BK101.out 0; have hfz5_1 := blk_frozen BK101.out 1))
 refine bodyPost_ret (results_cell_row rfl _ _ gb101 33 #[.int .i64 2, .slice Ao4 y102.length co4] (0, 0) _ rfl (by (with_reducible repeat (first | refine blk_drewN ?_ _ | refine blk_drew ?_ | refine blk_alloc ?_ _)); refine blk_put (cs := #[.int .i64 2, .slice none 0 0]) ?_ 1 _ rfl; (with_reducible repeat (first | refine blk_drewN ?_ _ | refine blk_drew ?_ | refine blk_alloc ?_ _)); refine blk_put (cs := #[.int .i64 0, .slice none 0 0]) ?_ 0 _ rfl; (with_reducible repeat (first | refine blk_drewN ?_ _ | refine blk_drew ?_ | refine blk_alloc ?_ _)); exact BK101.out) Try.underlying33 rfl (by kernel_rfl)) rfl ?_
 exact ⟨_, zQ, zR (Kd.R_mono (Kd.R_far (p := ⟨gb101, 1, none⟩) (Kd.R_far (p := ⟨gb101, 0, none⟩) (Kd.R_types HO104.out BK101.out (by decide)) (fun _ hk => hk.2) (.int .i64 2)) (fun _ hk => hk.2) (.slice Ao4 y102.length co4)) (fun _ hk => trivial)), zT⟩
end Go.Proofs.Ytalnaafmonmlmaa.Q
end
section
namespace Go.Proofs.Ytalnaafmonmlmaa.Q
open Go.RowKit Go.Proofs.YtalnaafmonmlmaaW.PrintWords Go.Proofs.YtalnaafmonmlmaaW.PrintLast Go.Proofs.YtalnaafmonmlmaaW.PrintMore
attribute [local go_sem] max2_int min2_int max_two min_two max_three min_three max_four min_four
set_option linter.unusedVariables false
set_option linter.unusedSimpArgs false
set_option maxHeartbeats 8000000
set_option maxRecDepth 100000
def galoislaw15_nine.f  : Option (Int × List Int) := some (3, (([1, 0, 1] : List Int)))
theorem galoislaw15_nine.calls  (r1 : Int) (r2 : List Int) (w : World) (h : galoislaw15_nine.f  = some (r1, r2)) :
  Calls Try.prog 43 #[] w fun e w' => ∃ v1_ : Value, e = .returned (.agg #[.int .i64 r1, v1_]) ∧ Kd.R (Kd.int .i64) 3 w' w.heap.size (fun _ => True) v1_ r2 ∧ Below w.heap.size w w' := by
 have hu33 := Try.underlying33
 have HB := Aside0.mk (Below.refl w.heap.size w)
 have H := h; clear h; unfold galoislaw15_nine.f at H
 obtain ⟨y102, Ny102⟩ := zA ((([1, 0, 1] : List Int)) : List Int); rw [← Ny102.out] at H
 simp only [Option.some.injEq, Prod.mk.injEq] at H
 obtain ⟨rfl, rfl⟩ := H
 go_enter Try.func43, Try.ntmps43
 go_wp2_with (first | ((with_reducible refine gate_dst (N := 0) rfl ?_); refine zb 0 #[.int .i64 0, .slice none 0 0] 33 ?_; intro gb101 hg w1 hbox hb; have BK101 := Aside0.mk (hbox); have GW101 := zg HB hg; have GE101 := GW101; replace HB := zBb HB hb; clear hb hbox hg) | ((with_reducible refine gate_dst (N := 1) rfl ?_); refine Kd.R_lit (Kd.int .i64) _ 3 ?hg (N := 1) ?hd (xs := ([1, 0, 1] : List Int)) (inner := [.int .i64 1, .int .i64 0, .int .i64 1]) (ok := fun _ => True) (okp := fun _ => True) ?hr ?hp (fun _ hk => hk) trivial (Below.refl _ _) (Nat.le_refl _) (by simp) ?_; (case hd => rfl); (case hg => rfl); (case hr => go_simp <;> rfl); (case hp => exact (Reps.one (show Kd.M (Kd.int .i64) _ _ _ 1 [.int .i64 1] from rfl) (Reps.one (show Kd.M (Kd.int .i64) _ _ _ 0 [.int .i64 0] from rfl) (Reps.one (show Kd.M (Kd.int .i64) _ _ _ 1 [.int .i64 1] from rfl) (Reps.none _ _))))); intro v103 w2 ho3 hb hg_ hnew_; clear hg_ hnew_; (first | rw [← Ny102.out] at ho3 | (simp only [Int.reduceToNat] at ho3; rw [← Ny102.out] at ho3)); have HO104 := Aside0.mk (Kd.R_lower ho3 (zS HB)); replace BK101 := zKb BK101 hb; replace HB := zBb HB hb; clear hb ho3; obtain ⟨Ao4, co4, eo4⟩ := Kd.R_slice HO104.out; subst eo4; have hcz5_0 := zc BK101 0; have hcz5_1 := zc BK101 1; have hfz5_0 := blk_frozen BK101.out 0; have hfz5_1 := blk_frozen BK101.out 1))
 refine bodyPost_ret (results_cell_row rfl _ _ gb101 33 #[.int .i64 3, .slice Ao4 y102.length co4] (0, 0) _ rfl (by (with_reducible repeat (first | refine blk_drewN ?_ _ | refine blk_drew ?_ | refine blk_alloc ?_ _)); refine blk_put (cs := #[.int .i64 3, .slice none 0 0]) ?_ 1 _ rfl; (with_reducible repeat (first | refine blk_drewN ?_ _ | refine blk_drew ?_ | refine blk_alloc ?_ _)); refine blk_put (cs := #[.int .i64 0, .slice none 0 0]) ?_ 0 _ rfl; (with_reducible repeat (first | refine blk_drewN ?_ _ | refine blk_drew ?_ | refine blk_alloc ?_ _)); exact BK101.out) Try.underlying33 rfl (by kernel_rfl)) rfl ?_
 exact ⟨_, zQ, zR (Kd.R_mono (Kd.R_far (p := ⟨gb101, 1, none⟩) (Kd.R_far (p := ⟨gb101, 0, none⟩) (Kd.R_types HO104.out BK101.out (by decide)) (fun _ hk => hk.2) (.int .i64 3)) (fun _ hk => hk.2) (.slice Ao4 y102.length co4)) (fun _ hk => trivial)), zT⟩
end Go.Proofs.Ytalnaafmonmlmaa.Q
end
section
namespace Go.Proofs.Ytalnaafmonmlmaa.Q
open Go.RowKit Go.Proofs.YtalnaafmonmlmaaW.PrintWords Go.Proofs.YtalnaafmonmlmaaW.PrintLast Go.Proofs.YtalnaafmonmlmaaW.PrintMore
attribute [local go_sem] max2_int min2_int max_two min_two max_three min_three max_four min_four
set_option linter.unusedVariables false
set_option linter.unusedSimpArgs false
set_option maxHeartbeats 8000000
set_option maxRecDepth 100000
def galoislaw15_right.f (k : Nat) (l0 : List Int) (a1 : Int) (a2 : Int) (l3 : List Int) : Option (Bool) := if a2 = 0 then ((galoisref09_Same.f k l0 l3).bind fun t101 => (if t101 = true then (some (a1 == 0)) else (some false))) else (if (l0.length : Int) = 0 then (some (a1 == a2)) else (some false))
theorem galoislaw15_right.mono : ∀ a0 a1 a2 a3 k, LeO (galoislaw15_right.f k a0 a1 a2 a3) (galoislaw15_right.f (k + 1) a0 a1 a2 a3) := by
 intro a0 a1 a2 a3 k
 unfold galoislaw15_right.f
 with_reducible repeat' first | exact galoisref09_Same.mono _ _ _ | exact LeO.refl _ | exact LeO.none _ | refine LeO.ite ?_ ?_ | refine LeO.bind ?_ (fun _ => ?_)
theorem galoislaw15_right.calls (k : Nat) (A0 : Option Addr) (c0 : Nat) (l0 : List Int) (a1 : Int) (a2 : Int) (A3 : Option Addr) (c3 : Nat) (l3 : List Int) (r : Bool) (w : World) (hr0 : Kd.C (Kd.int .i64) w A0 l0.length l0) (hc0 : l0.length ≤ c0) (hr3 : Kd.C (Kd.int .i64) w A3 l3.length l3) (hc3 : l3.length ≤ c3) (h : galoislaw15_right.f k l0 a1 a2 l3 = some r) :
  Calls Try.prog 12 #[.slice A0 l0.length c0, .int .i64 a1, .int .i64 a2, .slice A3 l3.length c3] w fun e w' => e = .returned (.bool r) ∧ Drawn0 w w' := by
 have HR0 := Aside0.mk hr0
 have HC0 := Aside0.mk hc0
 clear hr0 hc0
 have HR3 := Aside0.mk hr3
 have HC3 := Aside0.mk hc3
 clear hr3 hc3
 have H := h; clear h; unfold galoislaw15_right.f at H
 by_cases c5 : a2 = 0
 rotate_left
 ·rw [if_neg c5] at H
  obtain ⟨c5b0, c5b1⟩ := zU c5
  by_cases c8 : (l0.length : Int) = 0
  ·rw [if_pos c8] at H
   obtain ⟨c8b0, c8b1⟩ := zE c8; clear c8
   obtain rfl := Option.some.inj H
   go_enter Try.func12, Try.ntmps12
   go_wp2
   go_ret
   exact ⟨by first | rfl | (simp; done) | (simp [*]; done), by repeat (first | exact Drawn0.refl _ | apply Drawn0.step)⟩
  rw [if_neg c8] at H
  obtain ⟨c8b0, c8b1⟩ := zU c8
  have c8b2 : ¬ (l0 = []) := fun h_ => c8 (by rw [h_]; rfl)
  obtain rfl := Option.some.inj H
  go_enter Try.func12, Try.ntmps12
  go_wp2
  go_ret
  exact ⟨by first | rfl | (simp; done) | (simp [*]; done), by repeat (first | exact Drawn0.refl _ | apply Drawn0.step)⟩
 rw [if_pos c5] at H
 obtain ⟨c5b0, c5b1⟩ := zE c5; clear c5
 obtain ⟨t101, A6, H⟩ := zO H
 by_cases c7 : t101 = true
 ·subst c7
  rw [if_pos rfl] at H
  obtain rfl := Option.some.inj H
  go_enter Try.func12, Try.ntmps12
  go_wp2_with (first | ((with_reducible refine gate_callee (f := 19) rfl ?_); refine zG (some 21) Try.func19 #[.slice A0 l0.length c0, .slice A3 l3.length c3] ?_; (with_reducible refine (galoisref09_Same.calls k _ _ l0 _ _ l3 true _ ?side1 ?side2 ?side3 ?side4 A6.out).mono ?_); (case side1 => exact zC (HR0.out)); (case side2 => exact HC0.out); (case side3 => exact zC (HR3.out)); (case side4 => exact HC3.out); rintro e w' ⟨rfl, ⟨nd, rfl⟩⟩; refine ⟨_, rfl, ?_⟩))
  go_ret
  exact ⟨by first | rfl | (simp; done) | (simp [*]; done), by repeat (first | exact Drawn0.refl _ | apply Drawn0.step)⟩
 replace c7 := Bool.eq_false_iff.mpr c7
 subst c7
 rw [if_neg Bool.false_ne_true] at H
 obtain rfl := Option.some.inj H
 go_enter Try.func12, Try.ntmps12
 go_wp2_with (first | ((with_reducible refine gate_callee (f := 19) rfl ?_); refine zG (some 21) Try.func19 #[.slice A0 l0.length c0, .slice A3 l3.length c3] ?_; (with_reducible refine (galoisref09_Same.calls k _ _ l0 _ _ l3 false _ ?side1 ?side2 ?side3 ?side4 A6.out).mono ?_); (case side1 => exact zC (HR0.out)); (case side2 => exact HC0.out); (case side3 => exact zC (HR3.out)); (case side4 => exact HC3.out); rintro e w' ⟨rfl, ⟨nd, rfl⟩⟩; refine ⟨_, rfl, ?_⟩))
 go_ret
 exact ⟨by first | rfl | (simp; done) | (simp [*]; done), by repeat (first | exact Drawn0.refl _ | apply Drawn0.step)⟩
end Go.Proofs.Ytalnaafmonmlmaa.Q
end
section
namespace Go.Proofs.Ytalnaafmonmlmaa.Q
open Go.RowKit Go.Proofs.YtalnaafmonmlmaaW.PrintWords Go.Proofs.YtalnaafmonmlmaaW.PrintLast Go.Proofs.YtalnaafmonmlmaaW.PrintMore
attribute [local go_sem] max2_int min2_int max_two min_two max_three min_three max_four min_four
set_option linter.unusedVariables false
set_option linter.unusedSimpArgs false
set_option maxHeartbeats 8000000
set_option maxRecDepth 100000
def galoislaw15_short.f (a0_0 : Int) (l0_1 : List Int) (l1 : List Int) (l2 : List Int) : Option (Bool) := if (l0_1.length : Int) ≤ 70 then (if (l1.length : Int) ≤ 70 then (some (decide ((l2.length : Int) ≤ 70))) else (some false)) else (some false)
theorem galoislaw15_short.calls (a0_0 : Int) (A0_1 : Option Addr) (c0_1 : Nat) (l0_1 : List Int) (A1 : Option Addr) (c1 : Nat) (l1 : List Int) (A2 : Option Addr) (c2 : Nat) (l2 : List Int) (r : Bool) (w : World) (hr0_1 : Kd.C (Kd.int .i64) w A0_1 l0_1.length l0_1) (hc0_1 : l0_1.length ≤ c0_1) (hr1 : Kd.C (Kd.int .i64) w A1 l1.length l1) (hc1 : l1.length ≤ c1) (hr2 : Kd.C (Kd.int .i64) w A2 l2.length l2) (hc2 : l2.length ≤ c2) (h : galoislaw15_short.f a0_0 l0_1 l1 l2 = some r) :
  Calls Try.prog 20 #[.agg #[.int .i64 a0_0, .slice A0_1 l0_1.length c0_1], .slice A1 l1.length c1, .slice A2 l2.length c2] w fun e w' => e = .returned (.bool r) ∧ Below w.heap.size w w' := by
 have hu33 := Try.underlying33
 have HR0_1 := Aside0.mk hr0_1
 have HC0_1 := Aside0.mk hc0_1
 clear hr0_1 hc0_1
 have HR1 := Aside0.mk hr1
 have HC1 := Aside0.mk hc1
 clear hr1 hc1
 have HR2 := Aside0.mk hr2
 have HC2 := Aside0.mk hc2
 clear hr2 hc2
 have HB := Aside0.mk (Below.refl w.heap.size w)
 have H := h; clear h; unfold galoislaw15_short.f at H
 by_cases c4 : (l0_1.length : Int) ≤ 70
 rotate_left
 ·rw [if_neg c4] at H
  have c4b0 : decide ((l0_1.length : Int) ≤ 70) = false := decide_eq_false c4
  have c4b1 : decide (l0_1.length ≤ 70) = false := decide_eq_false (by omega)
  clear c4
  obtain rfl := Option.some.inj H
  go_enter Try.func20, Try.ntmps20
  go_wp2_with (first | ((with_reducible refine gate_dst (N := 3) rfl ?_); (try (refine gate_guard (by rfl) ?_; dsimp only)); refine zb 3 #[.int .i64 a0_0, .slice A0_1 l0_1.length c0_1] 33 ?_; intro gb101 hg w10 hbox hb; have BK101 := Aside0.mk (hbox); have GW101 := zg HB hg; have GE101 := GW101; replace HB := zBb HB hb; clear hb hbox hg; have hcz11_0 := zc BK101 0; have hcz11_1 := zc BK101 1; have hfz11_0 := blk_frozen BK101.out 0; have hfz11_1 := blk_frozen BK101.out 1))
  go_ret
  exact ⟨zQ, zT⟩
 rw [if_pos c4] at H
 have c4b0 : decide ((l0_1.length : Int) ≤ 70) = true := decide_eq_true c4
 have c4b1 : decide (l0_1.length ≤ 70) = true := decide_eq_true (by omega)
 clear c4
 by_cases c5 : (l1.length : Int) ≤ 70
 ·rw [if_pos c5] at H
  have c5b0 : decide ((l1.length : Int) ≤ 70) = true := decide_eq_true c5
  have c5b1 : decide (l1.length ≤ 70) = true := decide_eq_true (by omega)
  clear c5
  obtain rfl := Option.some.inj H
  go_enter Try.func20, Try.ntmps20
  go_wp2_with (first | ((with_reducible refine gate_dst (N := 3) rfl ?_); (try (refine gate_guard (by rfl) ?_; dsimp only)); refine zb 3 #[.int .i64 a0_0, .slice A0_1 l0_1.length c0_1] 33 ?_; intro gb101 hg w6 hbox hb; have BK101 := Aside0.mk (hbox); have GW101 := zg HB hg; have GE101 := GW101; replace HB := zBb HB hb; clear hb hbox hg; have hcz7_0 := zc BK101 0; have hcz7_1 := zc BK101 1; have hfz7_0 := blk_frozen BK101.out 0; have hfz7_1 := blk_frozen BK101.out 1))
  go_ret
  exact ⟨zQ, zT⟩
 rw [if_neg c5] at H
 have c5b0 : decide ((l1.length : Int) ≤ 70) = false := decide_eq_false c5
 have c5b1 : decide (l1.length ≤ 70) = false := decide_eq_false (by omega)
 clear c5
 obtain rfl := Option.some.inj H
 go_enter Try.func20, Try.ntmps20
 go_wp2_with (first | ((with_reducible refine gate_dst (N := 3) rfl ?_); (try (refine gate_guard (by rfl) ?_; dsimp only)); refine zb 3 #[.int .i64 a0_0, .slice A0_1 l0_1.length c0_1] 33 ?_; intro gb101 hg w8 hbox hb; have BK101 := Aside0.mk (hbox); have GW101 := zg HB hg; have GE101 := GW101; replace HB := zBb HB hb; clear hb hbox hg; have hcz9_0 := zc BK101 0; have hcz9_1 := zc BK101 1; have hfz9_0 := blk_frozen BK101.out 0; have hfz9_1 := blk_frozen BK101.out 1))
 go_ret
 exact ⟨zQ, zT⟩
end Go.Proofs.Ytalnaafmonmlmaa.Q
end
section
namespace Go.Proofs.Ytalnaafmonmlmaa.Q
open Go.RowKit Go.Proofs.YtalnaafmonmlmaaW.PrintWords Go.Proofs.YtalnaafmonmlmaaW.PrintLast Go.Proofs.YtalnaafmonmlmaaW.PrintMore
attribute [local go_sem] max2_int min2_int max_two min_two max_three min_three max_four min_four
set_option linter.unusedVariables false
set_option linter.unusedSimpArgs false
set_option maxHeartbeats 8000000
set_option maxRecDepth 100000
def finitefield_Add.f (k : Nat) (a0_0 : Int) (l0_1 : List Int) (l1 : List Int) (l2 : List Int) : Option (List Int × Int) := (finitefield_check.f k a0_0 l0_1 (([l1, l2] : List (List Int)))).bind fun t105 => (if t105 = 0 then ((fp_Add.f k a0_0 l1 l2).bind fun t106 => (some (t106, 0))) else (some (([] : List Int), t105)))
theorem finitefield_Add.mono : ∀ a0 a1 a2 a3 k, LeO (finitefield_Add.f k a0 a1 a2 a3) (finitefield_Add.f (k + 1) a0 a1 a2 a3) := by
 intro a0 a1 a2 a3 k
 unfold finitefield_Add.f
 with_reducible repeat' first | exact finitefield_check.mono _ _ _ _ | exact fp_Add.mono _ _ _ _ | exact LeO.refl _ | exact LeO.none _ | refine LeO.ite ?_ ?_ | refine LeO.bind ?_ (fun _ => ?_)
theorem finitefield_Add.calls (k : Nat) (a0_0 : Int) (A0_1 : Option Addr) (c0_1 : Nat) (l0_1 : List Int) (P1_ : Nat → Prop) (A1 : Option Addr) (c1 : Nat) (l1 : List Int) (P2_ : Nat → Prop) (A2 : Option Addr) (c2 : Nat) (l2 : List Int) (r1 : List Int) (r2 : Int) (w : World) (hr0_1 : Kd.C (Kd.int .i64) w A0_1 l0_1.length l0_1) (hc0_1 : l0_1.length ≤ c0_1) (hs1 : Kd.V (Kd.int .i64) 3 w w.heap.size (fun k_ => P1_ k_) (.slice A1 l1.length c1) l1) (hs2 : Kd.V (Kd.int .i64) 3 w w.heap.size (fun k_ => P2_ k_) (.slice A2 l2.length c2) l2) (h : finitefield_Add.f k a0_0 l0_1 l1 l2 = some (r1, r2)) :
  Calls Try.prog 21 #[.agg #[.int .i64 a0_0, .slice A0_1 l0_1.length c0_1], .slice A1 l1.length c1, .slice A2 l2.length c2] w fun e w' => ∃ v0_ : Value, e = .returned (.tuple #[v0_, .int .i64 r2]) ∧ Kd.V (Kd.int .i64) 3 w' w.heap.size (fun k_ => ((P1_ k_ ∨ P2_ k_) ∨ w.heap.size ≤ k_)) v0_ r1 ∧ Below w.heap.size w w' := by
 have hu33 := Try.underlying33
 have HR0_1 := Aside0.mk hr0_1
 have HC0_1 := Aside0.mk hc0_1
 clear hr0_1 hc0_1
 have HO1 := Aside0.mk (show Kd.V (Kd.int .i64) 3 w w.heap.size (fun k_ => ((P1_ k_ ∨ P2_ k_) ∨ w.heap.size ≤ k_)) (.slice A1 l1.length c1) l1 from Kd.V_mono hs1 (fun k_ hk => .inl (.inl hk)))
 have HO2 := Aside0.mk (show Kd.V (Kd.int .i64) 3 w w.heap.size (fun k_ => ((P1_ k_ ∨ P2_ k_) ∨ w.heap.size ≤ k_)) (.slice A2 l2.length c2) l2 from Kd.V_mono hs2 (fun k_ hk => .inl (.inr hk)))
 have HB := Aside0.mk (Below.refl w.heap.size w)
 have H := h; clear h; unfold finitefield_Add.f at H
 obtain ⟨y102, Ny102⟩ := zA ((([l1, l2] : List (List Int))) : List (List Int)); rw [← Ny102.out] at H
 obtain ⟨t105, A4, H⟩ := zO H
 by_cases c5 : t105 = 0
 rotate_left
 ·rw [if_neg c5] at H
  obtain ⟨c5b0, c5b1⟩ := zU c5
  simp only [Option.some.injEq, Prod.mk.injEq] at H
  obtain ⟨rfl, rfl⟩ := H
  go_enter Try.func21, Try.ntmps21
  go_wp2_with (first | ((with_reducible refine gate_dst (N := 3) rfl ?_); refine zb 3 #[.int .i64 a0_0, .slice A0_1 l0_1.length c0_1] 33 ?_; intro gb101 hg w15 hbox hb; replace HO1 := Aside0.mk (Kd.V_below (Kd.V_elderB (zV HO1.out) gb101 (Nat.le_of_eq hg.symm)) hb); replace HO2 := Aside0.mk (Kd.V_below (Kd.V_elderB (zV HO2.out) gb101 (Nat.le_of_eq hg.symm)) hb); have BK101 := Aside0.mk (hbox); have GW101 := zg HB hg; have GE101 := GW101; replace HB := zBb HB hb; clear hb hbox hg; have hcz16_0 := zc BK101 0; have hcz16_1 := zc BK101 1; have hfz16_0 := blk_frozen BK101.out 0; have hfz16_1 := blk_frozen BK101.out 1) | ((with_reducible refine gate_dst (N := 12) rfl ?_); refine Kd.N_lit (Kd.slice 3 (Kd.int .i64)) _ 25 ?hg (N' := 12) ?hd (xs := ([l1, l2] : List (List Int))) (inner := [.slice A1 l1.length c1, .slice A2 l2.length c2]) (ok := (fun k_ => ((P1_ k_ ∨ P2_ k_) ∨ w.heap.size ≤ k_) ∧ k_ ≠ gb101)) (okp := (fun k_ => ((P1_ k_ ∨ P2_ k_) ∨ w.heap.size ≤ k_) ∧ k_ ≠ gb101)) ?hr ?hp (fun _ hk => hk) ((show ∀ k_, w15.heap.size ≤ k_ → (fun k_ => ((P1_ k_ ∨ P2_ k_) ∨ w.heap.size ≤ k_) ∧ k_ ≠ gb101) k_ from fun k_ hk => ⟨(.inr (Nat.le_trans (zS HB) hk)), Kd.freshB (zK BK101.out) k_ hk⟩) _ (Nat.le_refl _)) (Below.refl _ _) (Nat.le_refl _) (by simp) ?_; (case hd => rfl); (case hg => rfl); (case hr => go_simp <;> rfl); (case hp => exact (Reps.one (show Kd.FK (Kd.slice 3 (Kd.int .i64)) _ _ l1 [.slice A1 l1.length c1] from (Kd.FK_slice_mk (Kd.V_reads' (Kd.V_mono (ok' := (fun k_ => ((P1_ k_ ∨ P2_ k_) ∨ w.heap.size ≤ k_) ∧ k_ ≠ gb101)) (HO1.out) (fun k_ hk => ⟨hk.1, hk.2⟩))).2.1 (Kd.V_F (Kd.V_mono (ok' := (fun k_ => ((P1_ k_ ∨ P2_ k_) ∨ w.heap.size ≤ k_) ∧ k_ ≠ gb101)) (HO1.out) (fun k_ hk => ⟨hk.1, hk.2⟩))))) (Reps.one (show Kd.FK (Kd.slice 3 (Kd.int .i64)) _ _ l2 [.slice A2 l2.length c2] from (Kd.FK_slice_mk (Kd.V_reads' (Kd.V_mono (ok' := (fun k_ => ((P1_ k_ ∨ P2_ k_) ∨ w.heap.size ≤ k_) ∧ k_ ≠ gb101)) (HO2.out) (fun k_ hk => ⟨hk.1, hk.2⟩))).2.1 (Kd.V_F (Kd.V_mono (ok' := (fun k_ => ((P1_ k_ ∨ P2_ k_) ∨ w.heap.size ≤ k_) ∧ k_ ≠ gb101)) (HO2.out) (fun k_ hk => ⟨hk.1, hk.2⟩))))) (Reps.none _ _)))); intro v103 w17 ho18 hb hg_ hnew_; clear hg_ hnew_; (first | rw [← Ny102.out] at ho18 | (simp only [Int.reduceToNat] at ho18; rw [← Ny102.out] at ho18)); replace HO1 := Aside0.mk (Kd.V_elder' (zV HO1.out) (Kd.N_base ho18) hb); replace HO2 := Aside0.mk (Kd.V_elder' (zV HO2.out) (Kd.N_base ho18) hb); have HO104 := Aside0.mk (Kd.N_lower ho18 (zS HB)); replace BK101 := zKb BK101 hb; replace HB := zBb HB hb; clear hb ho18; obtain ⟨Ao19, co19, eo19⟩ := Kd.N_slice HO104.out; subst eo19) | ((with_reducible refine gate_callee (f := 53) rfl ?_); refine zG (some 13) Try.func53 #[.agg #[.int .i64 a0_0, .slice A0_1 l0_1.length c0_1], .slice Ao19 y102.length co19] ?_; (with_reducible refine (finitefield_check.calls k a0_0 _ _ l0_1 _ _ y102 t105 _ ?side1 ?side2 ?side3 ?side4 A4.out).mono ?_); (case side1 => exact zC (Kd.C_below HR0_1.out HB.out)); (case side2 => exact HC0_1.out); (case side3 => exact zC ((Kd.N_reads' HO104.out).2.2)); (case side4 => exact (Kd.N_reads' HO104.out).2.1); rintro e w20 ⟨rfl, hb⟩; refine ⟨_, rfl, ?_⟩; replace HO1 := zVb HO1 hb; replace HO2 := zVb HO2 hb; replace HO104 := zNb HO104 hb; replace BK101 := zKb BK101 hb; replace HB := zBb HB hb; (try clear hb)))
  go_ret2
  exact ⟨_, zQ, zL, zT⟩
 rw [if_pos c5] at H
 obtain ⟨c5b0, c5b1⟩ := zE c5; clear c5
 obtain ⟨t106, A6, H⟩ := zO H
 simp only [Option.some.injEq, Prod.mk.injEq] at H
 obtain ⟨rfl, rfl⟩ := H
 go_enter Try.func21, Try.ntmps21
 go_wp2_with (first | ((with_reducible refine gate_dst (N := 3) rfl ?_); refine zb 3 #[.int .i64 a0_0, .slice A0_1 l0_1.length c0_1] 33 ?_; intro gb101 hg w7 hbox hb; replace HO1 := Aside0.mk (Kd.V_below (Kd.V_elderB (zV HO1.out) gb101 (Nat.le_of_eq hg.symm)) hb); replace HO2 := Aside0.mk (Kd.V_below (Kd.V_elderB (zV HO2.out) gb101 (Nat.le_of_eq hg.symm)) hb); have BK101 := Aside0.mk (hbox); have GW101 := zg HB hg; have GE101 := GW101; replace HB := zBb HB hb; clear hb hbox hg; have hcz8_0 := zc BK101 0; have hcz8_1 := zc BK101 1; have hfz8_0 := blk_frozen BK101.out 0; have hfz8_1 := blk_frozen BK101.out 1) | ((with_reducible refine gate_dst (N := 12) rfl ?_); refine Kd.N_lit (Kd.slice 3 (Kd.int .i64)) _ 25 ?hg (N' := 12) ?hd (xs := ([l1, l2] : List (List Int))) (inner := [.slice A1 l1.length c1, .slice A2 l2.length c2]) (ok := (fun k_ => ((P1_ k_ ∨ P2_ k_) ∨ w.heap.size ≤ k_) ∧ k_ ≠ gb101)) (okp := (fun k_ => ((P1_ k_ ∨ P2_ k_) ∨ w.heap.size ≤ k_) ∧ k_ ≠ gb101)) ?hr ?hp (fun _ hk => hk) ((show ∀ k_, w7.heap.size ≤ k_ → (fun k_ => ((P1_ k_ ∨ P2_ k_) ∨ w.heap.size ≤ k_) ∧ k_ ≠ gb101) k_ from fun k_ hk => ⟨(.inr (Nat.le_trans (zS HB) hk)), Kd.freshB (zK BK101.out) k_ hk⟩) _ (Nat.le_refl _)) (Below.refl _ _) (Nat.le_refl _) (by simp) ?_; (case hd => rfl); (case hg => rfl); (case hr => go_simp <;> rfl); (case hp => exact (Reps.one (show Kd.FK (Kd.slice 3 (Kd.int .i64)) _ _ l1 [.slice A1 l1.length c1] from (Kd.FK_slice_mk (Kd.V_reads' (Kd.V_mono (ok' := (fun k_ => ((P1_ k_ ∨ P2_ k_) ∨ w.heap.size ≤ k_) ∧ k_ ≠ gb101)) (HO1.out) (fun k_ hk => ⟨hk.1, hk.2⟩))).2.1 (Kd.V_F (Kd.V_mono (ok' := (fun k_ => ((P1_ k_ ∨ P2_ k_) ∨ w.heap.size ≤ k_) ∧ k_ ≠ gb101)) (HO1.out) (fun k_ hk => ⟨hk.1, hk.2⟩))))) (Reps.one (show Kd.FK (Kd.slice 3 (Kd.int .i64)) _ _ l2 [.slice A2 l2.length c2] from (Kd.FK_slice_mk (Kd.V_reads' (Kd.V_mono (ok' := (fun k_ => ((P1_ k_ ∨ P2_ k_) ∨ w.heap.size ≤ k_) ∧ k_ ≠ gb101)) (HO2.out) (fun k_ hk => ⟨hk.1, hk.2⟩))).2.1 (Kd.V_F (Kd.V_mono (ok' := (fun k_ => ((P1_ k_ ∨ P2_ k_) ∨ w.heap.size ≤ k_) ∧ k_ ≠ gb101)) (HO2.out) (fun k_ hk => ⟨hk.1, hk.2⟩))))) (Reps.none _ _)))); intro v103 w9 ho10 hb hg_ hnew_; clear hg_ hnew_; (first | rw [← Ny102.out] at ho10 | (simp only [Int.reduceToNat] at ho10; rw [← Ny102.out] at ho10)); replace HO1 := Aside0.mk (Kd.V_elder' (zV HO1.out) (Kd.N_base ho10) hb); replace HO2 := Aside0.mk (Kd.V_elder' (zV HO2.out) (Kd.N_base ho10) hb); have HO104 := Aside0.mk (Kd.N_lower ho10 (zS HB)); replace BK101 := zKb BK101 hb; replace HB := zBb HB hb; clear hb ho10; obtain ⟨Ao11, co11, eo11⟩ := Kd.N_slice HO104.out; subst eo11) | ((with_reducible refine gate_callee (f := 53) rfl ?_); refine zG (some 13) Try.func53 #[.agg #[.int .i64 a0_0, .slice A0_1 l0_1.length c0_1], .slice Ao11 y102.length co11] ?_; (with_reducible refine (finitefield_check.calls k a0_0 _ _ l0_1 _ _ y102 t105 _ ?side1 ?side2 ?side3 ?side4 A4.out).mono ?_); (case side1 => exact zC (Kd.C_below HR0_1.out HB.out)); (case side2 => exact HC0_1.out); (case side3 => exact zC ((Kd.N_reads' HO104.out).2.2)); (case side4 => exact (Kd.N_reads' HO104.out).2.1); rintro e w12 ⟨rfl, hb⟩; refine ⟨_, rfl, ?_⟩; replace HO1 := zVb HO1 hb; replace HO2 := zVb HO2 hb; replace HO104 := zNb HO104 hb; replace BK101 := zKb BK101 hb; replace HB := zBb HB hb; (try clear hb); have hcz13_0 := zc BK101 0; have hcz13_1 := zc BK101 1; have hfz13_0 := blk_frozen BK101.out 0; have hfz13_1 := blk_frozen BK101.out 1) | ((with_reducible refine gate_callee (f := 60) rfl ?_); refine zG (some 21) Try.func60 #[.int .i64 a0_0, .slice A1 l1.length c1, .slice A2 l2.length c2] ?_; (with_reducible refine (fp_Add.calls k a0_0 _ _ l1 _ _ l2 t106 _ ?side1 ?side2 ?side3 ?side4 A6.out).mono ?_); (case side1 => exact zC ((Kd.V_reads' HO1.out).2.2)); (case side2 => exact (Kd.V_reads' HO1.out).2.1); (case side3 => exact zC ((Kd.V_reads' HO2.out).2.2)); (case side4 => exact (Kd.V_reads' HO2.out).2.1); rintro e w14 ⟨v107, rfl, ho0, hb⟩; refine ⟨_, rfl, ?_⟩; replace HO1 := zVb HO1 hb; replace HO2 := zVb HO2 hb; have HO108 := Aside0.mk (Kd.V_lower (Kd.V_mono (ok' := fun k_ => ((P1_ k_ ∨ P2_ k_) ∨ w.heap.size ≤ k_) ∧ some k_ ≠ (.slice Ao11 y102.length co11 : Value).ownBlock ∧ k_ ≠ gb101) ho0 (fun k_ hk_ => ⟨(.inr (Nat.le_trans (zS HB) hk_)), (Kd.fresh' (Kd.N_lt (zN HO104.out)) k_ hk_), (Kd.freshB (zK BK101.out) k_ hk_)⟩)) (zS HB)); replace HO104 := zNb HO104 hb; replace BK101 := zKb BK101 hb; replace HB := zBb HB hb; (try clear hb); (try clear ho0)))
 go_ret2
 exact ⟨_, zQ, zV (Kd.V_mono HO108.out (fun _ hk => hk.1)), zT⟩
end Go.Proofs.Ytalnaafmonmlmaa.Q
end
section
namespace Go.Proofs.Ytalnaafmonmlmaa.Q
open Go.RowKit Go.Proofs.YtalnaafmonmlmaaW.PrintWords Go.Proofs.YtalnaafmonmlmaaW.PrintLast Go.Proofs.YtalnaafmonmlmaaW.PrintMore
attribute [local go_sem] max2_int min2_int max_two min_two max_three min_three max_four min_four
set_option linter.unusedVariables false
set_option linter.unusedSimpArgs false
set_option maxHeartbeats 8000000
set_option maxRecDepth 100000
def finitefield_Sub.f (k : Nat) (a0_0 : Int) (l0_1 : List Int) (l1 : List Int) (l2 : List Int) : Option (List Int × Int) := (finitefield_check.f k a0_0 l0_1 (([l1, l2] : List (List Int)))).bind fun t105 => (if t105 = 0 then ((fp_Sub.f k a0_0 l1 l2).bind fun t106 => (some (t106, 0))) else (some (([] : List Int), t105)))
theorem finitefield_Sub.mono : ∀ a0 a1 a2 a3 k, LeO (finitefield_Sub.f k a0 a1 a2 a3) (finitefield_Sub.f (k + 1) a0 a1 a2 a3) := by
 intro a0 a1 a2 a3 k
 unfold finitefield_Sub.f
 with_reducible repeat' first | exact finitefield_check.mono _ _ _ _ | exact fp_Sub.mono _ _ _ _ | exact LeO.refl _ | exact LeO.none _ | refine LeO.ite ?_ ?_ | refine LeO.bind ?_ (fun _ => ?_)
theorem finitefield_Sub.calls (k : Nat) (a0_0 : Int) (A0_1 : Option Addr) (c0_1 : Nat) (l0_1 : List Int) (P1_ : Nat → Prop) (A1 : Option Addr) (c1 : Nat) (l1 : List Int) (P2_ : Nat → Prop) (A2 : Option Addr) (c2 : Nat) (l2 : List Int) (r1 : List Int) (r2 : Int) (w : World) (hr0_1 : Kd.C (Kd.int .i64) w A0_1 l0_1.length l0_1) (hc0_1 : l0_1.length ≤ c0_1) (hs1 : Kd.V (Kd.int .i64) 3 w w.heap.size (fun k_ => P1_ k_) (.slice A1 l1.length c1) l1) (hs2 : Kd.V (Kd.int .i64) 3 w w.heap.size (fun k_ => P2_ k_) (.slice A2 l2.length c2) l2) (h : finitefield_Sub.f k a0_0 l0_1 l1 l2 = some (r1, r2)) :
  Calls Try.prog 22 #[.agg #[.int .i64 a0_0, .slice A0_1 l0_1.length c0_1], .slice A1 l1.length c1, .slice A2 l2.length c2] w fun e w' => ∃ v0_ : Value, e = .returned (.tuple #[v0_, .int .i64 r2]) ∧ Kd.V (Kd.int .i64) 3 w' w.heap.size (fun k_ => ((P1_ k_ ∨ P2_ k_) ∨ w.heap.size ≤ k_)) v0_ r1 ∧ Below w.heap.size w w' := by
 have hu33 := Try.underlying33
 have HR0_1 := Aside0.mk hr0_1
 have HC0_1 := Aside0.mk hc0_1
 clear hr0_1 hc0_1
 have HO1 := Aside0.mk (show Kd.V (Kd.int .i64) 3 w w.heap.size (fun k_ => ((P1_ k_ ∨ P2_ k_) ∨ w.heap.size ≤ k_)) (.slice A1 l1.length c1) l1 from Kd.V_mono hs1 (fun k_ hk => .inl (.inl hk)))
 have HO2 := Aside0.mk (show Kd.V (Kd.int .i64) 3 w w.heap.size (fun k_ => ((P1_ k_ ∨ P2_ k_) ∨ w.heap.size ≤ k_)) (.slice A2 l2.length c2) l2 from Kd.V_mono hs2 (fun k_ hk => .inl (.inr hk)))
 have HB := Aside0.mk (Below.refl w.heap.size w)
 have H := h; clear h; unfold finitefield_Sub.f at H
 obtain ⟨y102, Ny102⟩ := zA ((([l1, l2] : List (List Int))) : List (List Int)); rw [← Ny102.out] at H
 obtain ⟨t105, A4, H⟩ := zO H
 by_cases c5 : t105 = 0
 rotate_left
 ·rw [if_neg c5] at H
  obtain ⟨c5b0, c5b1⟩ := zU c5
  simp only [Option.some.injEq, Prod.mk.injEq] at H
  obtain ⟨rfl, rfl⟩ := H
  go_enter Try.func22, Try.ntmps22
  go_wp2_with (first | ((with_reducible refine gate_dst (N := 3) rfl ?_); refine zb 3 #[.int .i64 a0_0, .slice A0_1 l0_1.length c0_1] 33 ?_; intro gb101 hg w15 hbox hb; replace HO1 := Aside0.mk (Kd.V_below (Kd.V_elderB (zV HO1.out) gb101 (Nat.le_of_eq hg.symm)) hb); replace HO2 := Aside0.mk (Kd.V_below (Kd.V_elderB (zV HO2.out) gb101 (Nat.le_of_eq hg.symm)) hb); have BK101 := Aside0.mk (hbox); have GW101 := zg HB hg; have GE101 := GW101; replace HB := zBb HB hb; clear hb hbox hg; have hcz16_0 := zc BK101 0; have hcz16_1 := zc BK101 1; have hfz16_0 := blk_frozen BK101.out 0; have hfz16_1 := blk_frozen BK101.out 1) | ((with_reducible refine gate_dst (N := 12) rfl ?_); refine Kd.N_lit (Kd.slice 3 (Kd.int .i64)) _ 25 ?hg (N' := 12) ?hd (xs := ([l1, l2] : List (List Int))) (inner := [.slice A1 l1.length c1, .slice A2 l2.length c2]) (ok := (fun k_ => ((P1_ k_ ∨ P2_ k_) ∨ w.heap.size ≤ k_) ∧ k_ ≠ gb101)) (okp := (fun k_ => ((P1_ k_ ∨ P2_ k_) ∨ w.heap.size ≤ k_) ∧ k_ ≠ gb101)) ?hr ?hp (fun _ hk => hk) ((show ∀ k_, w15.heap.size ≤ k_ → (fun k_ => ((P1_ k_ ∨ P2_ k_) ∨ w.heap.size ≤ k_) ∧ k_ ≠ gb101) k_ from fun k_ hk => ⟨(.inr (Nat.le_trans (zS HB) hk)), Kd.freshB (zK BK101.out) k_ hk⟩) _ (Nat.le_refl _)) (Below.refl _ _) (Nat.le_refl _) (by simp) ?_; (case hd => rfl); (case hg => rfl); (case hr => go_simp <;> rfl); (case hp => exact (Reps.one (show Kd.FK (Kd.slice 3 (Kd.int .i64)) _ _ l1 [.slice A1 l1.length c1] from (Kd.FK_slice_mk (Kd.V_reads' (Kd.V_mono (ok' := (fun k_ => ((P1_ k_ ∨ P2_ k_) ∨ w.heap.size ≤ k_) ∧ k_ ≠ gb101)) (HO1.out) (fun k_ hk => ⟨hk.1, hk.2⟩))).2.1 (Kd.V_F (Kd.V_mono (ok' := (fun k_ => ((P1_ k_ ∨ P2_ k_) ∨ w.heap.size ≤ k_) ∧ k_ ≠ gb101)) (HO1.out) (fun k_ hk => ⟨hk.1, hk.2⟩))))) (Reps.one (show Kd.FK (Kd.slice 3 (Kd.int .i64)) _ _ l2 [.slice A2 l2.length c2] from (Kd.FK_slice_mk (Kd.V_reads' (Kd.V_mono (ok' := (fun k_ => ((P1_ k_ ∨ P2_ k_) ∨ w.heap.size ≤ k_) ∧ k_ ≠ gb101)) (HO2.out) (fun k_ hk => ⟨hk.1, hk.2⟩))).2.1 (Kd.V_F (Kd.V_mono (ok' := (fun k_ => ((P1_ k_ ∨ P2_ k_) ∨ w.heap.size ≤ k_) ∧ k_ ≠ gb101)) (HO2.out) (fun k_ hk => ⟨hk.1, hk.2⟩))))) (Reps.none _ _)))); intro v103 w17 ho18 hb hg_ hnew_; clear hg_ hnew_; (first | rw [← Ny102.out] at ho18 | (simp only [Int.reduceToNat] at ho18; rw [← Ny102.out] at ho18)); replace HO1 := Aside0.mk (Kd.V_elder' (zV HO1.out) (Kd.N_base ho18) hb); replace HO2 := Aside0.mk (Kd.V_elder' (zV HO2.out) (Kd.N_base ho18) hb); have HO104 := Aside0.mk (Kd.N_lower ho18 (zS HB)); replace BK101 := zKb BK101 hb; replace HB := zBb HB hb; clear hb ho18; obtain ⟨Ao19, co19, eo19⟩ := Kd.N_slice HO104.out; subst eo19) | ((with_reducible refine gate_callee (f := 53) rfl ?_); refine zG (some 13) Try.func53 #[.agg #[.int .i64 a0_0, .slice A0_1 l0_1.length c0_1], .slice Ao19 y102.length co19] ?_; (with_reducible refine (finitefield_check.calls k a0_0 _ _ l0_1 _ _ y102 t105 _ ?side1 ?side2 ?side3 ?side4 A4.out).mono ?_); (case side1 => exact zC (Kd.C_below HR0_1.out HB.out)); (case side2 => exact HC0_1.out); (case side3 => exact zC ((Kd.N_reads' HO104.out).2.2)); (case side4 => exact (Kd.N_reads' HO104.out).2.1); rintro e w20 ⟨rfl, hb⟩; refine ⟨_, rfl, ?_⟩; replace HO1 := zVb HO1 hb; replace HO2 := zVb HO2 hb; replace HO104 := zNb HO104 hb; replace BK101 := zKb BK101 hb; replace HB := zBb HB hb; (try clear hb)))
  go_ret2
  exact ⟨_, zQ, zL, zT⟩
 rw [if_pos c5] at H
 obtain ⟨c5b0, c5b1⟩ := zE c5; clear c5
 obtain ⟨t106, A6, H⟩ := zO H
 simp only [Option.some.injEq, Prod.mk.injEq] at H
 obtain ⟨rfl, rfl⟩ := H
 go_enter Try.func22, Try.ntmps22
 go_wp2_with (first | ((with_reducible refine gate_dst (N := 3) rfl ?_); refine zb 3 #[.int .i64 a0_0, .slice A0_1 l0_1.length c0_1] 33 ?_; intro gb101 hg w7 hbox hb; replace HO1 := Aside0.mk (Kd.V_below (Kd.V_elderB (zV HO1.out) gb101 (Nat.le_of_eq hg.symm)) hb); replace HO2 := Aside0.mk (Kd.V_below (Kd.V_elderB (zV HO2.out) gb101 (Nat.le_of_eq hg.symm)) hb); have BK101 := Aside0.mk (hbox); have GW101 := zg HB hg; have GE101 := GW101; replace HB := zBb HB hb; clear hb hbox hg; have hcz8_0 := zc BK101 0; have hcz8_1 := zc BK101 1; have hfz8_0 := blk_frozen BK101.out 0; have hfz8_1 := blk_frozen BK101.out 1) | ((with_reducible refine gate_dst (N := 12) rfl ?_); refine Kd.N_lit (Kd.slice 3 (Kd.int .i64)) _ 25 ?hg (N' := 12) ?hd (xs := ([l1, l2] : List (List Int))) (inner := [.slice A1 l1.length c1, .slice A2 l2.length c2]) (ok := (fun k_ => ((P1_ k_ ∨ P2_ k_) ∨ w.heap.size ≤ k_) ∧ k_ ≠ gb101)) (okp := (fun k_ => ((P1_ k_ ∨ P2_ k_) ∨ w.heap.size ≤ k_) ∧ k_ ≠ gb101)) ?hr ?hp (fun _ hk => hk) ((show ∀ k_, w7.heap.size ≤ k_ → (fun k_ => ((P1_ k_ ∨ P2_ k_) ∨ w.heap.size ≤ k_) ∧ k_ ≠ gb101) k_ from fun k_ hk => ⟨(.inr (Nat.le_trans (zS HB) hk)), Kd.freshB (zK BK101.out) k_ hk⟩) _ (Nat.le_refl _)) (Below.refl _ _) (Nat.le_refl _) (by simp) ?_; (case hd => rfl); (case hg => rfl); (case hr => go_simp <;> rfl); (case hp => exact (Reps.one (show Kd.FK (Kd.slice 3 (Kd.int .i64)) _ _ l1 [.slice A1 l1.length c1] from (Kd.FK_slice_mk (Kd.V_reads' (Kd.V_mono (ok' := (fun k_ => ((P1_ k_ ∨ P2_ k_) ∨ w.heap.size ≤ k_) ∧ k_ ≠ gb101)) (HO1.out) (fun k_ hk => ⟨hk.1, hk.2⟩))).2.1 (Kd.V_F (Kd.V_mono (ok' := (fun k_ => ((P1_ k_ ∨ P2_ k_) ∨ w.heap.size ≤ k_) ∧ k_ ≠ gb101)) (HO1.out) (fun k_ hk => ⟨hk.1, hk.2⟩))))) (Reps.one (show Kd.FK (Kd.slice 3 (Kd.int .i64)) _ _ l2 [.slice A2 l2.length c2] from (Kd.FK_slice_mk (Kd.V_reads' (Kd.V_mono (ok' := (fun k_ => ((P1_ k_ ∨ P2_ k_) ∨ w.heap.size ≤ k_) ∧ k_ ≠ gb101)) (HO2.out) (fun k_ hk => ⟨hk.1, hk.2⟩))).2.1 (Kd.V_F (Kd.V_mono (ok' := (fun k_ => ((P1_ k_ ∨ P2_ k_) ∨ w.heap.size ≤ k_) ∧ k_ ≠ gb101)) (HO2.out) (fun k_ hk => ⟨hk.1, hk.2⟩))))) (Reps.none _ _)))); intro v103 w9 ho10 hb hg_ hnew_; clear hg_ hnew_; (first | rw [← Ny102.out] at ho10 | (simp only [Int.reduceToNat] at ho10; rw [← Ny102.out] at ho10)); replace HO1 := Aside0.mk (Kd.V_elder' (zV HO1.out) (Kd.N_base ho10) hb); replace HO2 := Aside0.mk (Kd.V_elder' (zV HO2.out) (Kd.N_base ho10) hb); have HO104 := Aside0.mk (Kd.N_lower ho10 (zS HB)); replace BK101 := zKb BK101 hb; replace HB := zBb HB hb; clear hb ho10; obtain ⟨Ao11, co11, eo11⟩ := Kd.N_slice HO104.out; subst eo11) | ((with_reducible refine gate_callee (f := 53) rfl ?_); refine zG (some 13) Try.func53 #[.agg #[.int .i64 a0_0, .slice A0_1 l0_1.length c0_1], .slice Ao11 y102.length co11] ?_; (with_reducible refine (finitefield_check.calls k a0_0 _ _ l0_1 _ _ y102 t105 _ ?side1 ?side2 ?side3 ?side4 A4.out).mono ?_); (case side1 => exact zC (Kd.C_below HR0_1.out HB.out)); (case side2 => exact HC0_1.out); (case side3 => exact zC ((Kd.N_reads' HO104.out).2.2)); (case side4 => exact (Kd.N_reads' HO104.out).2.1); rintro e w12 ⟨rfl, hb⟩; refine ⟨_, rfl, ?_⟩; replace HO1 := zVb HO1 hb; replace HO2 := zVb HO2 hb; replace HO104 := zNb HO104 hb; replace BK101 := zKb BK101 hb; replace HB := zBb HB hb; (try clear hb); have hcz13_0 := zc BK101 0; have hcz13_1 := zc BK101 1; have hfz13_0 := blk_frozen BK101.out 0; have hfz13_1 := blk_frozen BK101.out 1) | ((with_reducible refine gate_callee (f := 61) rfl ?_); refine zG (some 21) Try.func61 #[.int .i64 a0_0, .slice A1 l1.length c1, .slice A2 l2.length c2] ?_; (with_reducible refine (fp_Sub.calls k a0_0 _ _ l1 _ _ l2 t106 _ ?side1 ?side2 ?side3 ?side4 A6.out).mono ?_); (case side1 => exact zC ((Kd.V_reads' HO1.out).2.2)); (case side2 => exact (Kd.V_reads' HO1.out).2.1); (case side3 => exact zC ((Kd.V_reads' HO2.out).2.2)); (case side4 => exact (Kd.V_reads' HO2.out).2.1); rintro e w14 ⟨v107, rfl, ho0, hb⟩; refine ⟨_, rfl, ?_⟩; replace HO1 := zVb HO1 hb; replace HO2 := zVb HO2 hb; have HO108 := Aside0.mk (Kd.V_lower (Kd.V_mono (ok' := fun k_ => ((P1_ k_ ∨ P2_ k_) ∨ w.heap.size ≤ k_) ∧ some k_ ≠ (.slice Ao11 y102.length co11 : Value).ownBlock ∧ k_ ≠ gb101) ho0 (fun k_ hk_ => ⟨(.inr (Nat.le_trans (zS HB) hk_)), (Kd.fresh' (Kd.N_lt (zN HO104.out)) k_ hk_), (Kd.freshB (zK BK101.out) k_ hk_)⟩)) (zS HB)); replace HO104 := zNb HO104 hb; replace BK101 := zKb BK101 hb; replace HB := zBb HB hb; (try clear hb); (try clear ho0)))
 go_ret2
 exact ⟨_, zQ, zV (Kd.V_mono HO108.out (fun _ hk => hk.1)), zT⟩
end Go.Proofs.Ytalnaafmonmlmaa.Q
end
section
namespace Go.Proofs.Ytalnaafmonmlmaa.Q
open Go.RowKit Go.Proofs.YtalnaafmonmlmaaW.PrintWords Go.Proofs.YtalnaafmonmlmaaW.PrintLast Go.Proofs.YtalnaafmonmlmaaW.PrintMore
attribute [local go_sem] max2_int min2_int max_two min_two max_three min_three max_four min_four
set_option linter.unusedVariables false
set_option linter.unusedSimpArgs false
set_option maxHeartbeats 8000000
set_option maxRecDepth 100000
def galoislaw15_expected.f (k : Nat) (a0_0 : Int) (l0_1 : List Int) (l1 : List Int) (l2 : List Int) : Option (Int) := (galoisref15_CheckElement.f k a0_0 l0_1 l1).bind fun t102 => (if t102 = 0 then ((galoisref15_Member.f k a0_0 l0_1 l2).bind fun t103 => (some t103)) else (some t102))
theorem galoislaw15_expected.mono : ∀ a0 a1 a2 a3 k, LeO (galoislaw15_expected.f k a0 a1 a2 a3) (galoislaw15_expected.f (k + 1) a0 a1 a2 a3) := by
 intro a0 a1 a2 a3 k
 unfold galoislaw15_expected.f
 with_reducible repeat' first | exact galoisref15_CheckElement.mono _ _ _ _ | exact galoisref15_Member.mono _ _ _ _ | exact LeO.refl _ | exact LeO.none _ | refine LeO.ite ?_ ?_ | refine LeO.bind ?_ (fun _ => ?_)
theorem galoislaw15_expected.calls (k : Nat) (a0_0 : Int) (A0_1 : Option Addr) (c0_1 : Nat) (l0_1 : List Int) (A1 : Option Addr) (c1 : Nat) (l1 : List Int) (A2 : Option Addr) (c2 : Nat) (l2 : List Int) (r : Int) (w : World) (hr0_1 : Kd.C (Kd.int .i64) w A0_1 l0_1.length l0_1) (hc0_1 : l0_1.length ≤ c0_1) (hr1 : Kd.C (Kd.int .i64) w A1 l1.length l1) (hc1 : l1.length ≤ c1) (hr2 : Kd.C (Kd.int .i64) w A2 l2.length l2) (hc2 : l2.length ≤ c2) (h : galoislaw15_expected.f k a0_0 l0_1 l1 l2 = some r) :
  Calls Try.prog 27 #[.agg #[.int .i64 a0_0, .slice A0_1 l0_1.length c0_1], .slice A1 l1.length c1, .slice A2 l2.length c2] w fun e w' => e = .returned (.int .i64 r) ∧ Below w.heap.size w w' := by
 have hu33 := Try.underlying33
 have HR0_1 := Aside0.mk hr0_1
 have HC0_1 := Aside0.mk hc0_1
 clear hr0_1 hc0_1
 have HR1 := Aside0.mk hr1
 have HC1 := Aside0.mk hc1
 clear hr1 hc1
 have HR2 := Aside0.mk hr2
 have HC2 := Aside0.mk hc2
 clear hr2 hc2
 have HB := Aside0.mk (Below.refl w.heap.size w)
 have H := h; clear h; unfold galoislaw15_expected.f at H
 obtain ⟨t102, A4, H⟩ := zO H
 by_cases c5 : t102 = 0
 rotate_left
 ·rw [if_neg c5] at H
  obtain ⟨c5b0, c5b1⟩ := zU c5
  obtain rfl := Option.some.inj H
  go_enter Try.func27, Try.ntmps27
  go_wp2_with (first | ((with_reducible refine gate_dst (N := 3) rfl ?_); refine zb 3 #[.int .i64 a0_0, .slice A0_1 l0_1.length c0_1] 33 ?_; intro gb101 hg w12 hbox hb; have BK101 := Aside0.mk (hbox); have GW101 := zg HB hg; have GE101 := GW101; replace HB := zBb HB hb; clear hb hbox hg; have hcz13_0 := zc BK101 0; have hcz13_1 := zc BK101 1; have hfz13_0 := blk_frozen BK101.out 0; have hfz13_1 := blk_frozen BK101.out 1) | ((with_reducible refine gate_callee (f := 26) rfl ?_); refine zG (some 10) Try.func26 #[.agg #[.int .i64 a0_0, .slice A0_1 l0_1.length c0_1], .slice A1 l1.length c1] ?_; (with_reducible refine (galoisref15_CheckElement.calls k a0_0 _ _ l0_1 _ _ l1 t102 _ ?side1 ?side2 ?side3 ?side4 A4.out).mono ?_); (case side1 => exact zC (Kd.C_below HR0_1.out HB.out)); (case side2 => exact HC0_1.out); (case side3 => exact zC (Kd.C_below HR1.out HB.out)); (case side4 => exact HC1.out); rintro e w14 ⟨rfl, hb⟩; refine ⟨_, rfl, ?_⟩; replace BK101 := zKb BK101 hb; replace HB := zBb HB hb; (try clear hb)))
  go_ret
  exact ⟨zQ, zT⟩
 rw [if_pos c5] at H
 obtain ⟨c5b0, c5b1⟩ := zE c5; clear c5
 obtain ⟨t103, A6, H⟩ := zO H
 obtain rfl := Option.some.inj H
 go_enter Try.func27, Try.ntmps27
 go_wp2_with (first | ((with_reducible refine gate_dst (N := 3) rfl ?_); refine zb 3 #[.int .i64 a0_0, .slice A0_1 l0_1.length c0_1] 33 ?_; intro gb101 hg w7 hbox hb; have BK101 := Aside0.mk (hbox); have GW101 := zg HB hg; have GE101 := GW101; replace HB := zBb HB hb; clear hb hbox hg; have hcz8_0 := zc BK101 0; have hcz8_1 := zc BK101 1; have hfz8_0 := blk_frozen BK101.out 0; have hfz8_1 := blk_frozen BK101.out 1) | ((with_reducible refine gate_callee (f := 26) rfl ?_); refine zG (some 10) Try.func26 #[.agg #[.int .i64 a0_0, .slice A0_1 l0_1.length c0_1], .slice A1 l1.length c1] ?_; (with_reducible refine (galoisref15_CheckElement.calls k a0_0 _ _ l0_1 _ _ l1 t102 _ ?side1 ?side2 ?side3 ?side4 A4.out).mono ?_); (case side1 => exact zC (Kd.C_below HR0_1.out HB.out)); (case side2 => exact HC0_1.out); (case side3 => exact zC (Kd.C_below HR1.out HB.out)); (case side4 => exact HC1.out); rintro e w9 ⟨rfl, hb⟩; refine ⟨_, rfl, ?_⟩; replace BK101 := zKb BK101 hb; replace HB := zBb HB hb; (try clear hb); have hcz10_0 := zc BK101 0; have hcz10_1 := zc BK101 1; have hfz10_0 := blk_frozen BK101.out 0; have hfz10_1 := blk_frozen BK101.out 1) | ((with_reducible refine gate_callee (f := 31) rfl ?_); refine zG (some 15) Try.func31 #[.agg #[.int .i64 a0_0, .slice A0_1 l0_1.length c0_1], .slice A2 l2.length c2] ?_; (with_reducible refine (galoisref15_Member.calls k a0_0 _ _ l0_1 _ _ l2 t103 _ ?side1 ?side2 ?side3 ?side4 A6.out).mono ?_); (case side1 => exact zC (Kd.C_below HR0_1.out HB.out)); (case side2 => exact HC0_1.out); (case side3 => exact zC (Kd.C_below HR2.out HB.out)); (case side4 => exact HC2.out); rintro e w11 ⟨rfl, hb⟩; refine ⟨_, rfl, ?_⟩; replace BK101 := zKb BK101 hb; replace HB := zBb HB hb; (try clear hb)))
 go_ret
 exact ⟨zQ, zT⟩
end Go.Proofs.Ytalnaafmonmlmaa.Q
end
section
namespace Go.Proofs.Ytalnaafmonmlmaa.Q
open Go.RowKit Go.Proofs.YtalnaafmonmlmaaW.PrintWords Go.Proofs.YtalnaafmonmlmaaW.PrintLast Go.Proofs.YtalnaafmonmlmaaW.PrintMore
attribute [local go_sem] max2_int min2_int max_two min_two max_three min_three max_four min_four
set_option linter.unusedVariables false
set_option linter.unusedSimpArgs false
set_option maxHeartbeats 8000000
set_option maxRecDepth 100000
def galoisref15_Add.f (k : Nat) (a0_0 : Int) (l0_1 : List Int) (l1 : List Int) (l2 : List Int) : Option (List Int) := (galoisref09_Add.f k a0_0 l1 l2).bind fun t102 => (some t102)
theorem galoisref15_Add.mono : ∀ a0 a1 a2 a3 k, LeO (galoisref15_Add.f k a0 a1 a2 a3) (galoisref15_Add.f (k + 1) a0 a1 a2 a3) := by
 intro a0 a1 a2 a3 k
 unfold galoisref15_Add.f
 with_reducible repeat' first | exact galoisref09_Add.mono _ _ _ _ | exact LeO.refl _ | exact LeO.none _ | refine LeO.ite ?_ ?_ | refine LeO.bind ?_ (fun _ => ?_)
theorem galoisref15_Add.calls (k : Nat) (a0_0 : Int) (A0_1 : Option Addr) (c0_1 : Nat) (l0_1 : List Int) (A1 : Option Addr) (c1 : Nat) (l1 : List Int) (A2 : Option Addr) (c2 : Nat) (l2 : List Int) (r : List Int) (w : World) (hr0_1 : Kd.C (Kd.int .i64) w A0_1 l0_1.length l0_1) (hc0_1 : l0_1.length ≤ c0_1) (hr1 : Kd.C (Kd.int .i64) w A1 l1.length l1) (hc1 : l1.length ≤ c1) (hr2 : Kd.C (Kd.int .i64) w A2 l2.length l2) (hc2 : l2.length ≤ c2) (h : galoisref15_Add.f k a0_0 l0_1 l1 l2 = some r) :
  Calls Try.prog 28 #[.agg #[.int .i64 a0_0, .slice A0_1 l0_1.length c0_1], .slice A1 l1.length c1, .slice A2 l2.length c2] w fun e w' => ∃ v0_ : Value, e = .returned (v0_) ∧ Kd.V (Kd.int .i64) 3 w' w.heap.size (fun k_ => (w.heap.size ≤ k_)) v0_ r ∧ Below w.heap.size w w' := by
 have hu33 := Try.underlying33
 have HR0_1 := Aside0.mk hr0_1
 have HC0_1 := Aside0.mk hc0_1
 clear hr0_1 hc0_1
 have HR1 := Aside0.mk hr1
 have HC1 := Aside0.mk hc1
 clear hr1 hc1
 have HR2 := Aside0.mk hr2
 have HC2 := Aside0.mk hc2
 clear hr2 hc2
 have HB := Aside0.mk (Below.refl w.heap.size w)
 have H := h; clear h; unfold galoisref15_Add.f at H
 obtain ⟨t102, A4, H⟩ := zO H
 obtain rfl := Option.some.inj H
 go_enter Try.func28, Try.ntmps28
 go_wp2_with (first | ((with_reducible refine gate_dst (N := 3) rfl ?_); refine zb 3 #[.int .i64 a0_0, .slice A0_1 l0_1.length c0_1] 33 ?_; intro gb101 hg w5 hbox hb; have BK101 := Aside0.mk (hbox); have GW101 := zg HB hg; have GE101 := GW101; replace HB := zBb HB hb; clear hb hbox hg; have hcz6_0 := zc BK101 0; have hcz6_1 := zc BK101 1; have hfz6_0 := blk_frozen BK101.out 0; have hfz6_1 := blk_frozen BK101.out 1) | ((with_reducible refine gate_callee (f := 64) rfl ?_); refine zG (some 11) Try.func64 #[.int .i64 a0_0, .slice A1 l1.length c1, .slice A2 l2.length c2] ?_; (with_reducible refine (galoisref09_Add.calls k a0_0 _ _ l1 _ _ l2 t102 _ ?side1 ?side2 ?side3 ?side4 A4.out).mono ?_); (case side1 => exact zC (Kd.C_below HR1.out HB.out)); (case side2 => exact HC1.out); (case side3 => exact zC (Kd.C_below HR2.out HB.out)); (case side4 => exact HC2.out); rintro e w7 ⟨v103, rfl, ho0, hb⟩; refine ⟨_, rfl, ?_⟩; have HO104 := Aside0.mk (Kd.V_lower (Kd.V_mono (ok' := fun k_ => (w.heap.size ≤ k_) ∧ k_ ≠ gb101) ho0 (fun k_ hk_ => ⟨(Nat.le_trans (zS HB) hk_), (Kd.freshB (zK BK101.out) k_ hk_)⟩)) (zS HB)); replace BK101 := zKb BK101 hb; replace HB := zBb HB hb; (try clear hb); (try clear ho0)))
 go_ret
 exact ⟨_, zQ, zV (Kd.V_mono HO104.out (fun _ hk => hk.1)), zT⟩
end Go.Proofs.Ytalnaafmonmlmaa.Q
end
section
namespace Go.Proofs.Ytalnaafmonmlmaa.Q
open Go.RowKit Go.Proofs.YtalnaafmonmlmaaW.PrintWords Go.Proofs.YtalnaafmonmlmaaW.PrintLast Go.Proofs.YtalnaafmonmlmaaW.PrintMore
attribute [local go_sem] max2_int min2_int max_two min_two max_three min_three max_four min_four
set_option linter.unusedVariables false
set_option linter.unusedSimpArgs false
set_option maxHeartbeats 8000000
set_option maxRecDepth 100000
def galoisref15_Sub.f (k : Nat) (a0_0 : Int) (l0_1 : List Int) (l1 : List Int) (l2 : List Int) : Option (List Int) := (galoisref09_Sub.f k a0_0 l1 l2).bind fun t102 => (some t102)
theorem galoisref15_Sub.mono : ∀ a0 a1 a2 a3 k, LeO (galoisref15_Sub.f k a0 a1 a2 a3) (galoisref15_Sub.f (k + 1) a0 a1 a2 a3) := by
 intro a0 a1 a2 a3 k
 unfold galoisref15_Sub.f
 with_reducible repeat' first | exact galoisref09_Sub.mono _ _ _ _ | exact LeO.refl _ | exact LeO.none _ | refine LeO.ite ?_ ?_ | refine LeO.bind ?_ (fun _ => ?_)
theorem galoisref15_Sub.calls (k : Nat) (a0_0 : Int) (A0_1 : Option Addr) (c0_1 : Nat) (l0_1 : List Int) (A1 : Option Addr) (c1 : Nat) (l1 : List Int) (A2 : Option Addr) (c2 : Nat) (l2 : List Int) (r : List Int) (w : World) (hr0_1 : Kd.C (Kd.int .i64) w A0_1 l0_1.length l0_1) (hc0_1 : l0_1.length ≤ c0_1) (hr1 : Kd.C (Kd.int .i64) w A1 l1.length l1) (hc1 : l1.length ≤ c1) (hr2 : Kd.C (Kd.int .i64) w A2 l2.length l2) (hc2 : l2.length ≤ c2) (h : galoisref15_Sub.f k a0_0 l0_1 l1 l2 = some r) :
  Calls Try.prog 29 #[.agg #[.int .i64 a0_0, .slice A0_1 l0_1.length c0_1], .slice A1 l1.length c1, .slice A2 l2.length c2] w fun e w' => ∃ v0_ : Value, e = .returned (v0_) ∧ Kd.V (Kd.int .i64) 3 w' w.heap.size (fun k_ => (w.heap.size ≤ k_)) v0_ r ∧ Below w.heap.size w w' := by
 have hu33 := Try.underlying33
 have HR0_1 := Aside0.mk hr0_1
 have HC0_1 := Aside0.mk hc0_1
 clear hr0_1 hc0_1
 have HR1 := Aside0.mk hr1
 have HC1 := Aside0.mk hc1
 clear hr1 hc1
 have HR2 := Aside0.mk hr2
 have HC2 := Aside0.mk hc2
 clear hr2 hc2
 have HB := Aside0.mk (Below.refl w.heap.size w)
 have H := h; clear h; unfold galoisref15_Sub.f at H
 obtain ⟨t102, A4, H⟩ := zO H
 obtain rfl := Option.some.inj H
 go_enter Try.func29, Try.ntmps29
 go_wp2_with (first | ((with_reducible refine gate_dst (N := 3) rfl ?_); refine zb 3 #[.int .i64 a0_0, .slice A0_1 l0_1.length c0_1] 33 ?_; intro gb101 hg w5 hbox hb; have BK101 := Aside0.mk (hbox); have GW101 := zg HB hg; have GE101 := GW101; replace HB := zBb HB hb; clear hb hbox hg; have hcz6_0 := zc BK101 0; have hcz6_1 := zc BK101 1; have hfz6_0 := blk_frozen BK101.out 0; have hfz6_1 := blk_frozen BK101.out 1) | ((with_reducible refine gate_callee (f := 65) rfl ?_); refine zG (some 11) Try.func65 #[.int .i64 a0_0, .slice A1 l1.length c1, .slice A2 l2.length c2] ?_; (with_reducible refine (galoisref09_Sub.calls k a0_0 _ _ l1 _ _ l2 t102 _ ?side1 ?side2 ?side3 ?side4 A4.out).mono ?_); (case side1 => exact zC (Kd.C_below HR1.out HB.out)); (case side2 => exact HC1.out); (case side3 => exact zC (Kd.C_below HR2.out HB.out)); (case side4 => exact HC2.out); rintro e w7 ⟨v103, rfl, ho0, hb⟩; refine ⟨_, rfl, ?_⟩; have HO104 := Aside0.mk (Kd.V_lower (Kd.V_mono (ok' := fun k_ => (w.heap.size ≤ k_) ∧ k_ ≠ gb101) ho0 (fun k_ hk_ => ⟨(Nat.le_trans (zS HB) hk_), (Kd.freshB (zK BK101.out) k_ hk_)⟩)) (zS HB)); replace BK101 := zKb BK101 hb; replace HB := zBb HB hb; (try clear hb); (try clear ho0)))
 go_ret
 exact ⟨_, zQ, zV (Kd.V_mono HO104.out (fun _ hk => hk.1)), zT⟩
end Go.Proofs.Ytalnaafmonmlmaa.Q
end
section
namespace Go.Proofs.Ytalnaafmonmlmaa.Q
open Go.RowKit Go.Proofs.YtalnaafmonmlmaaW.PrintWords Go.Proofs.YtalnaafmonmlmaaW.PrintLast Go.Proofs.YtalnaafmonmlmaaW.PrintMore
attribute [local go_sem] max2_int min2_int max_two min_two max_three min_three max_four min_four
set_option linter.unusedVariables false
set_option linter.unusedSimpArgs false
set_option maxHeartbeats 8000000
set_option maxRecDepth 100000
def galoisref15_Mul.f (k : Nat) (a0_0 : Int) (l0_1 : List Int) (l1 : List Int) (l2 : List Int) : Option (List Int) := (galoisref09_MulMod.f k a0_0 l1 l2 l0_1).bind fun t102 => (some t102)
theorem galoisref15_Mul.mono : ∀ a0 a1 a2 a3 k, LeO (galoisref15_Mul.f k a0 a1 a2 a3) (galoisref15_Mul.f (k + 1) a0 a1 a2 a3) := by
 intro a0 a1 a2 a3 k
 unfold galoisref15_Mul.f
 with_reducible repeat' first | exact galoisref09_MulMod.mono _ _ _ _ _ | exact LeO.refl _ | exact LeO.none _ | refine LeO.ite ?_ ?_ | refine LeO.bind ?_ (fun _ => ?_)
theorem galoisref15_Mul.calls (k : Nat) (a0_0 : Int) (A0_1 : Option Addr) (c0_1 : Nat) (l0_1 : List Int) (A1 : Option Addr) (c1 : Nat) (l1 : List Int) (A2 : Option Addr) (c2 : Nat) (l2 : List Int) (r : List Int) (w : World) (hr0_1 : Kd.C (Kd.int .i64) w A0_1 l0_1.length l0_1) (hc0_1 : l0_1.length ≤ c0_1) (hr1 : Kd.C (Kd.int .i64) w A1 l1.length l1) (hc1 : l1.length ≤ c1) (hr2 : Kd.C (Kd.int .i64) w A2 l2.length l2) (hc2 : l2.length ≤ c2) (h : galoisref15_Mul.f k a0_0 l0_1 l1 l2 = some r) :
  Calls Try.prog 30 #[.agg #[.int .i64 a0_0, .slice A0_1 l0_1.length c0_1], .slice A1 l1.length c1, .slice A2 l2.length c2] w fun e w' => ∃ v0_ : Value, e = .returned (v0_) ∧ Kd.V (Kd.int .i64) 3 w' w.heap.size (fun k_ => (w.heap.size ≤ k_)) v0_ r ∧ Below w.heap.size w w' := by
 have hu33 := Try.underlying33
 have HR0_1 := Aside0.mk hr0_1
 have HC0_1 := Aside0.mk hc0_1
 clear hr0_1 hc0_1
 have HR1 := Aside0.mk hr1
 have HC1 := Aside0.mk hc1
 clear hr1 hc1
 have HR2 := Aside0.mk hr2
 have HC2 := Aside0.mk hc2
 clear hr2 hc2
 have HB := Aside0.mk (Below.refl w.heap.size w)
 have H := h; clear h; unfold galoisref15_Mul.f at H
 obtain ⟨t102, A4, H⟩ := zO H
 obtain rfl := Option.some.inj H
 go_enter Try.func30, Try.ntmps30
 go_wp2_with (first | ((with_reducible refine gate_dst (N := 3) rfl ?_); refine zb 3 #[.int .i64 a0_0, .slice A0_1 l0_1.length c0_1] 33 ?_; intro gb101 hg w5 hbox hb; have BK101 := Aside0.mk (hbox); have GW101 := zg HB hg; have GE101 := GW101; replace HB := zBb HB hb; clear hb hbox hg; have hcz6_0 := zc BK101 0; have hcz6_1 := zc BK101 1; have hfz6_0 := blk_frozen BK101.out 0; have hfz6_1 := blk_frozen BK101.out 1) | ((with_reducible refine gate_callee (f := 66) rfl ?_); refine zG (some 13) Try.func66 #[.int .i64 a0_0, .slice A1 l1.length c1, .slice A2 l2.length c2, .slice A0_1 l0_1.length c0_1] ?_; (with_reducible refine (galoisref09_MulMod.calls k a0_0 _ _ l1 _ _ l2 _ _ l0_1 t102 _ ?side1 ?side2 ?side3 ?side4 ?side5 ?side6 A4.out).mono ?_); (case side1 => exact zC (Kd.C_below HR1.out HB.out)); (case side2 => exact HC1.out); (case side3 => exact zC (Kd.C_below HR2.out HB.out)); (case side4 => exact HC2.out); (case side5 => exact zC (Kd.C_below HR0_1.out HB.out)); (case side6 => exact HC0_1.out); rintro e w7 ⟨v103, rfl, ho0, hb⟩; refine ⟨_, rfl, ?_⟩; have HO104 := Aside0.mk (Kd.V_lower (Kd.V_mono (ok' := fun k_ => (w.heap.size ≤ k_) ∧ k_ ≠ gb101) ho0 (fun k_ hk_ => ⟨(Nat.le_trans (zS HB) hk_), (Kd.freshB (zK BK101.out) k_ hk_)⟩)) (zS HB)); replace BK101 := zKb BK101 hb; replace HB := zBb HB hb; (try clear hb); (try clear ho0)))
 go_ret
 exact ⟨_, zQ, zV (Kd.V_mono HO104.out (fun _ hk => hk.1)), zT⟩
end Go.Proofs.Ytalnaafmonmlmaa.Q
end

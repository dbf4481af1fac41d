/- Machine side and arithmetic of the law, put together by a program of the session. No conditions. -/
import Derived.Test.YtalnaafmonmlmaaGreatKQuot5
import Derived.Test.YtalnaafmonmlmaaGreatKQuot7
import Derived.Test.YtalnaafmonmlmaaGreatKQuot8
import Derived.Test.YtalnaafmonmlmaaGreatKQuot11
section
namespace Go.Proofs.YtalnaafmonmlmaaGreat.Q
open Go.RowKit Go.Proofs.YtalnaafmonmlmaaGreatW.PrintWords Go.Proofs.YtalnaafmonmlmaaGreatW.PrintLast Go.Proofs.YtalnaafmonmlmaaGreatW.PrintMore
attribute [local go_sem] max2_int min2_int max_two min_two max_three min_three max_four min_four
set_option linter.unusedVariables false
set_option linter.unusedSimpArgs false
set_option maxHeartbeats 8000000
set_option maxRecDepth 100000
mutual
def galoislaw15_FinitefieldQuotients.j0 : Nat → Bool → Int → List Int → List Int → List Int → ByteArray → Option (Bool)
 | 0, _, _, _, _, _, _ => none
 | k + 1, x29, x102000, x102001, x103000, x103001, x103002 => if x29 = true then ((galoislaw15_awake.f k).bind fun t105 => (some t105)) else ((finitefield_Div.f k x102000 x102001 x103000 x103001).bind fun bt106 => ((finitefield_Inverse.f k x102000 x102001 x103000).bind fun bt110 => ((finitefield_Pow.f k x102000 x102001 x103000 x103002).bind fun bt114 => ((galoisref15_CheckElement.f k x102000 x102001 x103000).bind fun t118 => (if t118 = 0 then ((galoisref01_Check.f x103002).bind fun t122 => (if t122 = 0 then ((galoisref15_Pow.f k x102000 x102001 x103000 x103002).bind fun t123 => ((galoislaw15_right.f k bt114.1 bt114.2 0 t123).bind fun t126 => (if t126 = true then (galoislaw15_FinitefieldQuotients.j1 k bt106.1 bt106.2 bt110.1 bt110.2 x102000 x102001 x103000 x103001 x103002) else (none)))) else ((galoisref01_Check.f x103002).bind fun t127 => ((galoislaw15_right.f k bt114.1 bt114.2 t127 ([] : List Int)).bind fun t128 => (if t128 = true then (galoislaw15_FinitefieldQuotients.j1 k bt106.1 bt106.2 bt110.1 bt110.2 x102000 x102001 x103000 x103001 x103002) else (none)))))) else ((galoislaw15_right.f k bt106.1 bt106.2 t118 ([] : List Int)).bind fun t119 => (if t119 = true then ((galoislaw15_right.f k bt110.1 bt110.2 t118 ([] : List Int)).bind fun t120 => (if t120 = true then ((galoislaw15_right.f k bt114.1 bt114.2 t118 ([] : List Int)).bind fun t121 => (some t121)) else (none))) else (none))))))))
def galoislaw15_FinitefieldQuotients.j1 : Nat → List Int → Int → List Int → Int → Int → List Int → List Int → List Int → ByteArray → Option (Bool)
 | 0, _, _, _, _, _, _, _, _, _ => none
 | k + 1, x5, x6, x7, x8, x102000, x102001, x103000, x103001, x103002 => if (x103000.length : Int) = 0 then ((galoislaw15_right.f k x7 x8 6 ([] : List Int)).bind fun t129 => (if t129 = true then (galoislaw15_FinitefieldQuotients.j2 k x5 x6 x102000 x102001 x103000 x103001 x103002) else (none))) else ((galoisref15_Inverse.f k x102000 x102001 x103000).bind fun t130 => ((galoislaw15_right.f k x7 x8 0 t130).bind fun t133 => (if t133 = true then (galoislaw15_FinitefieldQuotients.j2 k x5 x6 x102000 x102001 x103000 x103001 x103002) else (none))))
def galoislaw15_FinitefieldQuotients.j2 : Nat → List Int → Int → Int → List Int → List Int → List Int → ByteArray → Option (Bool)
 | 0, _, _, _, _, _, _, _ => none
 | k + 1, x5, x6, x102000, x102001, x103000, x103001, x103002 => (galoisref15_Member.f k x102000 x102001 x103001).bind fun t134 => (if t134 = 0 then (galoislaw15_FinitefieldQuotients.j3 k x5 x6 t134 ((x103001.length : Int) == 0) x102000 x102001 x103000 x103001 x103002) else (galoislaw15_FinitefieldQuotients.j3 k x5 x6 t134 false x102000 x102001 x103000 x103001 x103002))
def galoislaw15_FinitefieldQuotients.j3 : Nat → List Int → Int → Int → Bool → Int → List Int → List Int → List Int → ByteArray → Option (Bool)
 | 0, _, _, _, _, _, _, _, _, _ => none
 | k + 1, x5, x6, x12, x126, x102000, x102001, x103000, x103001, x103002 => if x126 = true then (galoislaw15_FinitefieldQuotients.j4 k x5 x6 6 x102000 x102001 x103000 x103001 x103002) else (galoislaw15_FinitefieldQuotients.j4 k x5 x6 x12 x102000 x102001 x103000 x103001 x103002)
def galoislaw15_FinitefieldQuotients.j4 : Nat → List Int → Int → Int → Int → List Int → List Int → List Int → ByteArray → Option (Bool)
 | 0, _, _, _, _, _, _, _, _ => none
 | k + 1, x5, x6, x12, x102000, x102001, x103000, x103001, x103002 => if x12 = 0 then ((galoisref15_Inverse.f k x102000 x102001 x103001).bind fun t135 => ((galoisref15_Mul.f k x102000 x102001 x103000 t135).bind fun t138 => ((galoislaw15_right.f k x5 x6 0 t138).bind fun t141 => (some t141)))) else ((galoislaw15_right.f k x5 x6 x12 ([] : List Int)).bind fun t142 => (some t142))
end
def galoislaw15_FinitefieldQuotients.f (k : Nat) (a0_0 : Int) (l0_1 : List Int) (l1_0 : List Int) (l1_1 : List Int) (a1_2 : ByteArray) : Option (Bool) := (galoislaw15_awake.f k).bind fun t103 => (if t103 = true then ((galoislaw15_short.f a0_0 l0_1 l1_0 l1_1).bind fun t104 => (if t104 = true then (galoislaw15_FinitefieldQuotients.j0 k (decide ((a1_2.size : Int) > 16)) a0_0 l0_1 l1_0 l1_1 a1_2) else (galoislaw15_FinitefieldQuotients.j0 k true a0_0 l0_1 l1_0 l1_1 a1_2))) else (galoislaw15_FinitefieldQuotients.j0 k true a0_0 l0_1 l1_0 l1_1 a1_2))
theorem galoislaw15_FinitefieldQuotients.mono_l : ∀ k, (∀ y0 y1 y2 y3 y4 y5, LeO (galoislaw15_FinitefieldQuotients.j0 k y0 y1 y2 y3 y4 y5) (galoislaw15_FinitefieldQuotients.j0 (k + 1) y0 y1 y2 y3 y4 y5)) ∧ (∀ y0 y1 y2 y3 y4 y5 y6 y7 y8, LeO (galoislaw15_FinitefieldQuotients.j1 k y0 y1 y2 y3 y4 y5 y6 y7 y8) (galoislaw15_FinitefieldQuotients.j1 (k + 1) y0 y1 y2 y3 y4 y5 y6 y7 y8)) ∧ (∀ y0 y1 y2 y3 y4 y5 y6, LeO (galoislaw15_FinitefieldQuotients.j2 k y0 y1 y2 y3 y4 y5 y6) (galoislaw15_FinitefieldQuotients.j2 (k + 1) y0 y1 y2 y3 y4 y5 y6)) ∧ (∀ y0 y1 y2 y3 y4 y5 y6 y7 y8, LeO (galoislaw15_FinitefieldQuotients.j3 k y0 y1 y2 y3 y4 y5 y6 y7 y8) (galoislaw15_FinitefieldQuotients.j3 (k + 1) y0 y1 y2 y3 y4 y5 y6 y7 y8)) ∧ (∀ y0 y1 y2 y3 y4 y5 y6 y7, LeO (galoislaw15_FinitefieldQuotients.j4 k y0 y1 y2 y3 y4 y5 y6 y7) (galoislaw15_FinitefieldQuotients.j4 (k + 1) y0 y1 y2 y3 y4 y5 y6 y7))
 | 0 => ⟨fun _ _ _ _ _ _ r h => by simp [galoislaw15_FinitefieldQuotients.j0] at h, fun _ _ _ _ _ _ _ _ _ r h => by simp [galoislaw15_FinitefieldQuotients.j1] at h, fun _ _ _ _ _ _ _ r h => by simp [galoislaw15_FinitefieldQuotients.j2] at h, fun _ _ _ _ _ _ _ _ _ r h => by simp [galoislaw15_FinitefieldQuotients.j3] at h, fun _ _ _ _ _ _ _ _ r h => by simp [galoislaw15_FinitefieldQuotients.j4] at h⟩
 | k + 1 => by
  obtain ⟨ih0, ih1, ih2, ih3, ih4⟩ := galoislaw15_FinitefieldQuotients.mono_l k
  refine ⟨?_, ?_, ?_, ?_, ?_⟩
  ·intro y0 y1 y2 y3 y4 y5
   unfold galoislaw15_FinitefieldQuotients.j0
   with_reducible repeat' first | exact ih0 _ _ _ _ _ _ | exact ih1 _ _ _ _ _ _ _ _ _ | exact ih2 _ _ _ _ _ _ _ | exact ih3 _ _ _ _ _ _ _ _ _ | exact ih4 _ _ _ _ _ _ _ _ | exact finitefield_Div.mono _ _ _ _ _ | exact finitefield_Inverse.mono _ _ _ _ | exact finitefield_Pow.mono _ _ _ _ _ | exact galoislaw15_awake.mono _ | exact galoislaw15_right.mono _ _ _ _ _ | exact galoisref15_CheckElement.mono _ _ _ _ | exact galoisref15_Inverse.mono _ _ _ _ | exact galoisref15_Member.mono _ _ _ _ | exact galoisref15_Mul.mono _ _ _ _ _ | exact galoisref15_Pow.mono _ _ _ _ _ | exact LeO.refl _ | exact LeO.none _ | refine LeO.ite ?_ ?_ | refine LeO.bind ?_ (fun _ => ?_)
  ·intro y0 y1 y2 y3 y4 y5 y6 y7 y8
   unfold galoislaw15_FinitefieldQuotients.j1
   with_reducible repeat' first | exact ih0 _ _ _ _ _ _ | exact ih1 _ _ _ _ _ _ _ _ _ | exact ih2 _ _ _ _ _ _ _ | exact ih3 _ _ _ _ _ _ _ _ _ | exact ih4 _ _ _ _ _ _ _ _ | exact finitefield_Div.mono _ _ _ _ _ | exact finitefield_Inverse.mono _ _ _ _ | exact finitefield_Pow.mono _ _ _ _ _ | exact galoislaw15_awake.mono _ | exact galoislaw15_right.mono _ _ _ _ _ | exact galoisref15_CheckElement.mono _ _ _ _ | exact galoisref15_Inverse.mono _ _ _ _ | exact galoisref15_Member.mono _ _ _ _ | exact galoisref15_Mul.mono _ _ _ _ _ | exact galoisref15_Pow.mono _ _ _ _ _ | exact LeO.refl _ | exact LeO.none _ | refine LeO.ite ?_ ?_ | refine LeO.bind ?_ (fun _ => ?_)
  ·intro y0 y1 y2 y3 y4 y5 y6
   unfold galoislaw15_FinitefieldQuotients.j2
   with_reducible repeat' first | exact ih0 _ _ _ _ _ _ | exact ih1 _ _ _ _ _ _ _ _ _ | exact ih2 _ _ _ _ _ _ _ | exact ih3 _ _ _ _ _ _ _ _ _ | exact ih4 _ _ _ _ _ _ _ _ | exact finitefield_Div.mono _ _ _ _ _ | exact finitefield_Inverse.mono _ _ _ _ | exact finitefield_Pow.mono _ _ _ _ _ | exact galoislaw15_awake.mono _ | exact galoislaw15_right.mono _ _ _ _ _ | exact galoisref15_CheckElement.mono _ _ _ _ | exact galoisref15_Inverse.mono _ _ _ _ | exact galoisref15_Member.mono _ _ _ _ | exact galoisref15_Mul.mono _ _ _ _ _ | exact galoisref15_Pow.mono _ _ _ _ _ | exact LeO.refl _ | exact LeO.none _ | refine LeO.ite ?_ ?_ | refine LeO.bind ?_ (fun _ => ?_)
  ·intro y0 y1 y2 y3 y4 y5 y6 y7 y8
   unfold galoislaw15_FinitefieldQuotients.j3
   with_reducible repeat' first | exact ih0 _ _ _ _ _ _ | exact ih1 _ _ _ _ _ _ _ _ _ | exact ih2 _ _ _ _ _ _ _ | exact ih3 _ _ _ _ _ _ _ _ _ | exact ih4 _ _ _ _ _ _ _ _ | exact finitefield_Div.mono _ _ _ _ _ | exact finitefield_Inverse.mono _ _ _ _ | exact finitefield_Pow.mono _ _ _ _ _ | exact galoislaw15_awake.mono _ | exact galoislaw15_right.mono _ _ _ _ _ | exact galoisref15_CheckElement.mono _ _ _ _ | exact galoisref15_Inverse.mono _ _ _ _ | exact galoisref15_Member.mono _ _ _ _ | exact galoisref15_Mul.mono _ _ _ _ _ | exact galoisref15_Pow.mono _ _ _ _ _ | exact LeO.refl _ | exact LeO.none _ | refine LeO.ite ?_ ?_ | refine LeO.bind ?_ (fun _ => ?_)
  intro y0 y1 y2 y3 y4 y5 y6 y7
  unfold galoislaw15_FinitefieldQuotients.j4
  with_reducible repeat' first | exact ih0 _ _ _ _ _ _ | exact ih1 _ _ _ _ _ _ _ _ _ | exact ih2 _ _ _ _ _ _ _ | exact ih3 _ _ _ _ _ _ _ _ _ | exact ih4 _ _ _ _ _ _ _ _ | exact finitefield_Div.mono _ _ _ _ _ | exact finitefield_Inverse.mono _ _ _ _ | exact finitefield_Pow.mono _ _ _ _ _ | exact galoislaw15_awake.mono _ | exact galoislaw15_right.mono _ _ _ _ _ | exact galoisref15_CheckElement.mono _ _ _ _ | exact galoisref15_Inverse.mono _ _ _ _ | exact galoisref15_Member.mono _ _ _ _ | exact galoisref15_Mul.mono _ _ _ _ _ | exact galoisref15_Pow.mono _ _ _ _ _ | exact LeO.refl _ | exact LeO.none _ | refine LeO.ite ?_ ?_ | refine LeO.bind ?_ (fun _ => ?_)
theorem galoislaw15_FinitefieldQuotients.mono : ∀ a0 a1 a2 a3 a4 k, LeO (galoislaw15_FinitefieldQuotients.f k a0 a1 a2 a3 a4) (galoislaw15_FinitefieldQuotients.f (k + 1) a0 a1 a2 a3 a4) := by
 intro a0 a1 a2 a3 a4 k
 obtain ⟨ih0, ih1, ih2, ih3, ih4⟩ := galoislaw15_FinitefieldQuotients.mono_l k
 unfold galoislaw15_FinitefieldQuotients.f
 with_reducible repeat' first | exact ih0 _ _ _ _ _ _ | exact ih1 _ _ _ _ _ _ _ _ _ | exact ih2 _ _ _ _ _ _ _ | exact ih3 _ _ _ _ _ _ _ _ _ | exact ih4 _ _ _ _ _ _ _ _ | exact finitefield_Div.mono _ _ _ _ _ | exact finitefield_Inverse.mono _ _ _ _ | exact finitefield_Pow.mono _ _ _ _ _ | exact galoislaw15_awake.mono _ | exact galoislaw15_right.mono _ _ _ _ _ | exact galoisref15_CheckElement.mono _ _ _ _ | exact galoisref15_Inverse.mono _ _ _ _ | exact galoisref15_Member.mono _ _ _ _ | exact galoisref15_Mul.mono _ _ _ _ _ | exact galoisref15_Pow.mono _ _ _ _ _ | exact LeO.refl _ | exact LeO.none _ | refine LeO.ite ?_ ?_ | refine LeO.bind ?_ (fun _ => ?_)
def galoislaw15_FinitefieldQuotients.T24 : Bool × List (List Nat × List Nat) := (true, [([], []), ([], []), ([], []), ([], []), ([3], [3]), ([], []), ([], []), ([6], [6]), ([5, 7], [5, 7]), ([2, 4, 8, 8], [2, 4, 8]), ([0, 1, 9, 9], [0, 1, 9]), ([10, 10, 0, 1, 2, 3, 4, 5, 6, 7, 8, 9, 10], [10])])
def galoislaw15_FinitefieldQuotients.B24 : List Nat := [0, 0, 0, 0, 8, 0, 0, 64, 224, 508, 1023, 2047]
theorem galoislaw15_FinitefieldQuotients.tab24 : rtab .any (opsOf Tryz.f3 24) = galoislaw15_FinitefieldQuotients.T24 := by kernel_rfl
theorem galoislaw15_FinitefieldQuotients.bits24 : waitsOk galoislaw15_FinitefieldQuotients.T24.2 galoislaw15_FinitefieldQuotients.B24 = true := by kernel_rfl
theorem galoislaw15_FinitefieldQuotients.calls (k : Nat) (a0_0 : Int) (A0_1 : Option Addr) (c0_1 : Nat) (l0_1 : List Int) (A1_0 : Option Addr) (c1_0 : Nat) (l1_0 : List Int) (A1_1 : Option Addr) (c1_1 : Nat) (l1_1 : List Int) (a1_2 : ByteArray) (r : Bool) (w : World) (hr0_1 : Kd.C (Kd.int .i64) w A0_1 l0_1.length l0_1) (hc0_1 : l0_1.length ≤ c0_1) (hr1_0 : Kd.C (Kd.int .i64) w A1_0 l1_0.length l1_0) (hc1_0 : l1_0.length ≤ c1_0) (hr1_1 : Kd.C (Kd.int .i64) w A1_1 l1_1.length l1_1) (hc1_1 : l1_1.length ≤ c1_1) (h : galoislaw15_FinitefieldQuotients.f k a0_0 l0_1 l1_0 l1_1 a1_2 = some r) :
  Calls Tryz.prog 3 #[.agg #[.int .i64 a0_0, .slice A0_1 l0_1.length c0_1], .agg #[.slice A1_0 l1_0.length c1_0, .slice A1_1 l1_1.length c1_1, .string a1_2]] w fun e w' => e = .returned (.bool r) ∧ Below w.heap.size w w' := by
 have hu25 := Tryz.underlying25
 have hu28 := Tryz.underlying28
 have HR0_1 := Aside0.mk hr0_1
 have HC0_1 := Aside0.mk hc0_1
 clear hr0_1 hc0_1
 have HR1_0 := Aside0.mk hr1_0
 have HC1_0 := Aside0.mk hc1_0
 clear hr1_0 hc1_0
 have HR1_1 := Aside0.mk hr1_1
 have HC1_1 := Aside0.mk hc1_1
 clear hr1_1 hc1_1
 have HB := Aside0.mk (Below.refl w.heap.size w)
 have H := h; clear h; unfold galoislaw15_FinitefieldQuotients.f at H
 have HC3 := Aside0.mk H
 clear H
 go_enter Tryz.func3, Tryz.ntmps3
 go_upto_region 1 with (first | ((with_reducible refine gate_dst (N := 2) rfl ?_); (try (refine gate_guard (by rfl) ?_; dsimp only)); refine zb 2 #[.int .i64 a0_0, .slice A0_1 l0_1.length c0_1] 25 ?_; intro gb101 hg w4 hbox hb; have BK101 := Aside0.mk (hbox); have GW101 := zg HB hg; have GE101 := GW101; replace HB := zBb HB hb; clear hb hbox hg) | ((with_reducible refine gate_dst (N := 3) rfl ?_); (try (refine gate_guard (by rfl) ?_; dsimp only)); refine zb 3 #[.slice A1_0 l1_0.length c1_0, .slice A1_1 l1_1.length c1_1, .string a1_2] 28 ?_; intro gb102 hg w5 hbox hb; have BK102 := Aside0.mk (hbox); have GW102 := zg HB hg; have GE102 := GW102; replace HB := zBb HB hb; have NB101_102 := Aside0.mk ((by rw [hg]; exact Nat.ne_of_lt (blk_lt (zK BK101.out)) : gb101 ≠ gb102)); have NB102_101 := Aside0.mk ((by rw [hg]; exact Nat.ne_of_gt (blk_lt (zK BK101.out)) : gb102 ≠ gb101)); replace BK101 := zKb BK101 hb; clear hb hbox hg))
 (try simp only [Act.put, List.setIfInBounds_toArray, List.set_cons_zero, List.set_cons_succ])
 go_cut [29] (fun v29 wc => ∃ (kq : Nat) (x29_2 : Bool), v29 = .bool x29_2 ∧ Aside0 (galoislaw15_FinitefieldQuotients.j0 kq x29_2 a0_0 l0_1 l1_0 l1_1 a1_2 = some r) ∧ Aside0 (kq ≤ k) ∧ Aside0 (wc.heap[gb101]? = some (.cells #[.int .i64 a0_0, (.slice A0_1 l0_1.length c0_1)] 25 (0, 0))) ∧ Aside0 (wc.heap[gb102]? = some (.cells #[(.slice A1_0 l1_0.length c1_0), (.slice A1_1 l1_1.length c1_1), .string a1_2] 28 (0, 0))) ∧ Aside0 (Below w.heap.size w wc))
 case first =>
  have H := HC3.out
  clear HC3
  obtain ⟨t103, A6, H⟩ := zO H
  by_cases c7 : t103 = true
  rotate_left
  ·replace c7 := Bool.eq_false_iff.mpr c7
   subst c7
   rw [if_neg Bool.false_ne_true] at H
   have H' := Aside0.mk H
   clear H
   go_wp2_with (first | ((with_reducible refine gate_callee (f := 6) rfl ?_); refine zG (some 13) Tryz.func6 #[] ?_; (with_reducible refine (galoislaw15_awake.calls k  false _ A6.out).mono ?_); rintro e w21 ⟨rfl, hb⟩; refine ⟨_, rfl, ?_⟩; replace BK101 := zKb BK101 hb; replace BK102 := zKb BK102 hb; replace HB := zBb HB hb; (try clear hb)))
   go_meet
   case rel => exact ⟨_, (true), zX, H', ⟨by first | omega | exact Nat.le_refl _⟩, ⟨zK BK101.out⟩, ⟨zK BK102.out⟩, ⟨zT⟩⟩
  subst c7
  rw [if_pos rfl] at H
  obtain ⟨t104, A8, H⟩ := zO H
  by_cases c9 : t104 = true
  rotate_left
  ·replace c9 := Bool.eq_false_iff.mpr c9
   subst c9
   rw [if_neg Bool.false_ne_true] at H
   have H' := Aside0.mk H
   clear H
   go_wp2_with (first | ((with_reducible refine gate_callee (f := 6) rfl ?_); refine zG (some 13) Tryz.func6 #[] ?_; (with_reducible refine (galoislaw15_awake.calls k  true _ A6.out).mono ?_); rintro e w16 ⟨rfl, hb⟩; refine ⟨_, rfl, ?_⟩; replace BK101 := zKb BK101 hb; replace BK102 := zKb BK102 hb; replace HB := zBb HB hb; (try clear hb); have hnb17 := NB101_102.out; have hnc17 := NB102_101.out; obtain ⟨hcz18_0, hcz18_1, hfz18_0, hfz18_1⟩ := zf2 BK101; obtain ⟨hcz19_0, hcz19_1, hcz19_2, hfz19_0, hfz19_1, hfz19_2⟩ := zf3 BK102) | (go_at_call 7; (with_reducible refine (galoislaw15_short.calls a0_0 _ _ l0_1 _ _ l1_0 _ _ l1_1 false _ (zC (Kd.C_below HR0_1.out HB.out)) HC0_1.out (zC (Kd.C_below HR1_0.out HB.out)) HC1_0.out (zC (Kd.C_below HR1_1.out HB.out)) HC1_1.out A8.out).mono ?_); rintro e w20 ⟨rfl, hb⟩; replace BK101 := zKb BK101 hb; replace BK102 := zKb BK102 hb; replace HB := zBb HB hb; (try clear hb)))
   go_meet
   case rel => exact ⟨_, (true), zX, H', ⟨by first | omega | exact Nat.le_refl _⟩, ⟨zK BK101.out⟩, ⟨zK BK102.out⟩, ⟨zT⟩⟩
  subst c9
  rw [if_pos rfl] at H
  have H' := Aside0.mk H
  clear H
  go_wp2_with (first | ((with_reducible refine gate_callee (f := 6) rfl ?_); refine zG (some 13) Tryz.func6 #[] ?_; (with_reducible refine (galoislaw15_awake.calls k  true _ A6.out).mono ?_); rintro e w10 ⟨rfl, hb⟩; refine ⟨_, rfl, ?_⟩; replace BK101 := zKb BK101 hb; replace BK102 := zKb BK102 hb; replace HB := zBb HB hb; (try clear hb); have hnb11 := NB101_102.out; have hnc11 := NB102_101.out; obtain ⟨hcz12_0, hcz12_1, hfz12_0, hfz12_1⟩ := zf2 BK101; obtain ⟨hcz13_0, hcz13_1, hcz13_2, hfz13_0, hfz13_1, hfz13_2⟩ := zf3 BK102) | (go_at_call 7; (with_reducible refine (galoislaw15_short.calls a0_0 _ _ l0_1 _ _ l1_0 _ _ l1_1 true _ (zC (Kd.C_below HR0_1.out HB.out)) HC0_1.out (zC (Kd.C_below HR1_0.out HB.out)) HC1_0.out (zC (Kd.C_below HR1_1.out HB.out)) HC1_1.out A8.out).mono ?_); rintro e w14 ⟨rfl, hb⟩; replace BK101 := zKb BK101 hb; replace BK102 := zKb BK102 hb; replace HB := zBb HB hb; (try clear hb); obtain ⟨hcz15_0, hcz15_1, hcz15_2, hfz15_0, hfz15_1, hfz15_2⟩ := zf3 BK102))
  go_meet
  case rel => exact ⟨_, (decide ((a1_2.size : Int) > 16)), zX, H', ⟨by first | omega | exact Nat.le_refl _⟩, ⟨zK BK101.out⟩, ⟨zK BK102.out⟩, ⟨zT⟩⟩
 case rest =>
  clear HC3
  try clear c1; try clear p2; try clear c3; try clear c6; try clear c7; try clear c9; try clear c11; try clear c17; try clear hcz12_0; try clear hcz12_1; try clear hcz13_0; try clear hcz13_1; try clear hcz13_2; try clear hcz15_0; try clear hcz15_1; try clear hcz15_2; try clear hcz18_0; try clear hcz18_1; try clear hcz19_0; try clear hcz19_1; try clear hcz19_2; try clear hfz12_0; try clear hfz12_1; try clear hfz13_0; try clear hfz13_1; try clear hfz13_2; try clear hfz15_0; try clear hfz15_1; try clear hfz15_2; try clear hfz18_0; try clear hfz18_1; try clear hfz19_0; try clear hfz19_1; try clear hfz19_2
  obtain ⟨kq, x29_2, rfl, HA, HJ2, BK101, BK102, HB⟩ := hcut
  cases kq with
  | zero => exact absurd HA.out (by simp [galoislaw15_FinitefieldQuotients.j0])
  | succ kj2 =>
   have H := HA.out
   clear HA
   simp only [galoislaw15_FinitefieldQuotients.j0] at H
   by_cases c22 : x29_2 = true
   ·subst c22
    rw [if_pos rfl] at H
    obtain ⟨t105, A23, H⟩ := zO H
    obtain rfl := Option.some.inj H
    go_wp2_with (first | ((with_reducible refine gate_callee (f := 6) rfl ?_); refine zG (some 30) Tryz.func6 #[] ?_; (with_reducible refine (galoislaw15_awake.calls kj2  t105 _ A23.out).mono ?_); rintro e w24 ⟨rfl, hb⟩; refine ⟨_, rfl, ?_⟩; replace BK101 := zKb BK101 hb; replace BK102 := zKb BK102 hb; replace HB := zBb HB hb; (try clear hb)))
    go_ret
    exact ⟨zQ, zT⟩
   replace c22 := Bool.eq_false_iff.mpr c22
   subst c22
   rw [if_neg Bool.false_ne_true] at H
   obtain ⟨⟨t106, t109⟩, A25, H⟩ := zO H; try dsimp only at H
   obtain ⟨⟨t110, t113⟩, A26, H⟩ := zO H; try dsimp only at H
   obtain ⟨⟨t114, t117⟩, A27, H⟩ := zO H; try dsimp only at H
   obtain ⟨t118, A28, H⟩ := zO H
   by_cases c29 : t118 = 0
   rotate_left
   ·rw [if_neg c29] at H
    obtain ⟨c29b0, c29b1⟩ := zU c29
    obtain ⟨t119, A101, H⟩ := zO H
    by_cases c102 : t119 = true
    rotate_left
    ·replace c102 := Bool.eq_false_iff.mpr c102
     subst c102
     rw [if_neg Bool.false_ne_true] at H
     exact absurd H (by simp)
    subst c102
    rw [if_pos rfl] at H
    obtain ⟨t120, A103, H⟩ := zO H
    by_cases c104 : t120 = true
    rotate_left
    ·replace c104 := Bool.eq_false_iff.mpr c104
     subst c104
     rw [if_neg Bool.false_ne_true] at H
     exact absurd H (by simp)
    subst c104
    rw [if_pos rfl] at H
    obtain ⟨t121, A105, H⟩ := zO H
    obtain rfl := Option.some.inj H
    have hnb106 := NB101_102.out
    have hnc106 := NB102_101.out
    obtain ⟨hcz107_0, hcz107_1, hfz107_0, hfz107_1⟩ := zf2 BK101
    obtain ⟨hcz108_0, hcz108_1, hcz108_2, hfz108_0, hfz108_1, hfz108_2⟩ := zf3 BK102
    go_wp2_with (first | ((with_reducible refine gate_callee (f := 8) rfl ?_); refine zG (some 37) Tryz.func8 #[.agg #[.int .i64 a0_0, .slice A0_1 l0_1.length c0_1], .slice A1_0 l1_0.length c1_0, .slice A1_1 l1_1.length c1_1] ?_; (with_reducible refine (finitefield_Div.calls kj2 a0_0 (fun k_ => k_ < w.heap.size) _ _ l0_1 (fun k_ => k_ < w.heap.size) _ _ l1_0 (fun k_ => k_ < w.heap.size) _ _ l1_1 t106 t109 _ ?side1 ?side2 ?side3 A25.out).mono ?_); (case side1 => exact Kd.V_mk HC0_1.out (Kd.F_below (Kd.C_F (Kd.heap_int .i64) HR0_1.out) (zT))); (case side2 => exact Kd.V_mk HC1_0.out (Kd.F_below (Kd.C_F (Kd.heap_int .i64) HR1_0.out) (zT))); (case side3 => exact Kd.V_mk HC1_1.out (Kd.F_below (Kd.C_F (Kd.heap_int .i64) HR1_1.out) (zT))); rintro e w109 ⟨v107, rfl, ho0, hb⟩; refine ⟨_, rfl, ?_⟩; have HO108 := Aside0.mk (Kd.V_lower (Kd.V_mono (ok' := fun k_ => k_ ≠ gb101 ∧ k_ ≠ gb102) ho0 (fun k_ hk_ => ⟨Or.elim hk_ (fun hs_ => Or.elim hs_ (fun hs_ => fun e_ => Nat.not_le.2 hs_ (by rw [e_]; exact GW101.out)) (fun hs_ => Or.elim hs_ (fun hs_ => fun e_ => Nat.not_le.2 hs_ (by rw [e_]; exact GW101.out)) (fun hs_ => fun e_ => Nat.not_le.2 hs_ (by rw [e_]; exact GW101.out)))) (fun hn_ => (Kd.freshB (zK BK101.out) k_ hn_)), Or.elim hk_ (fun hs_ => Or.elim hs_ (fun hs_ => fun e_ => Nat.not_le.2 hs_ (by rw [e_]; exact GW102.out)) (fun hs_ => Or.elim hs_ (fun hs_ => fun e_ => Nat.not_le.2 hs_ (by rw [e_]; exact GW102.out)) (fun hs_ => fun e_ => Nat.not_le.2 hs_ (by rw [e_]; exact GW102.out)))) (fun hn_ => (Kd.freshB (zK BK102.out) k_ hn_))⟩)) (zS HB)); replace BK101 := zKb BK101 hb; replace BK102 := zKb BK102 hb; replace HB := zBb HB hb; (try clear hb); (try clear ho0); obtain ⟨hcz110_0, hcz110_1, hfz110_0, hfz110_1⟩ := zf2 BK101; obtain ⟨hcz111_0, hcz111_1, hcz111_2, hfz111_0, hfz111_1, hfz111_2⟩ := zf3 BK102) | ((with_reducible refine gate_callee (f := 9) rfl ?_); refine zG (some 44) Tryz.func9 #[.agg #[.int .i64 a0_0, .slice A0_1 l0_1.length c0_1], .slice A1_0 l1_0.length c1_0] ?_; (with_reducible refine (finitefield_Inverse.calls kj2 a0_0 (fun k_ => k_ < w.heap.size) _ _ l0_1 (fun k_ => k_ < w.heap.size) _ _ l1_0 t110 t113 _ ?side1 ?side2 A26.out).mono ?_); (case side1 => exact Kd.V_mk HC0_1.out (Kd.F_below (Kd.C_F (Kd.heap_int .i64) HR0_1.out) (zT))); (case side2 => exact Kd.V_mk HC1_0.out (Kd.F_below (Kd.C_F (Kd.heap_int .i64) HR1_0.out) (zT))); rintro e w112 ⟨v111, rfl, ho0, hb⟩; refine ⟨_, rfl, ?_⟩; replace HO108 := zVb HO108 hb; have HO112 := Aside0.mk (Kd.V_lower (Kd.V_mono (ok' := fun k_ => k_ ≠ gb101 ∧ k_ ≠ gb102) ho0 (fun k_ hk_ => ⟨Or.elim hk_ (fun hs_ => Or.elim hs_ (fun hs_ => fun e_ => Nat.not_le.2 hs_ (by rw [e_]; exact GW101.out)) (fun hs_ => fun e_ => Nat.not_le.2 hs_ (by rw [e_]; exact GW101.out))) (fun hn_ => (Kd.freshB (zK BK101.out) k_ hn_)), Or.elim hk_ (fun hs_ => Or.elim hs_ (fun hs_ => fun e_ => Nat.not_le.2 hs_ (by rw [e_]; exact GW102.out)) (fun hs_ => fun e_ => Nat.not_le.2 hs_ (by rw [e_]; exact GW102.out))) (fun hn_ => (Kd.freshB (zK BK102.out) k_ hn_))⟩)) (zS HB)); replace BK101 := zKb BK101 hb; replace BK102 := zKb BK102 hb; replace HB := zBb HB hb; (try clear hb); (try clear ho0); obtain ⟨hcz113_0, hcz113_1, hfz113_0, hfz113_1⟩ := zf2 BK101; obtain ⟨hcz114_0, hcz114_1, hcz114_2, hfz114_0, hfz114_1, hfz114_2⟩ := zf3 BK102) | ((with_reducible refine gate_callee (f := 10) rfl ?_); refine zG (some 53) Tryz.func10 #[.agg #[.int .i64 a0_0, .slice A0_1 l0_1.length c0_1], .slice A1_0 l1_0.length c1_0, .string a1_2] ?_; (with_reducible refine (finitefield_Pow.calls kj2 a0_0 _ _ l0_1 (fun k_ => k_ < w.heap.size) _ _ l1_0 a1_2 t114 t117 _ ?side1 ?side2 ?side3 A27.out).mono ?_); (case side1 => exact zC (Kd.C_below HR0_1.out HB.out)); (case side2 => exact HC0_1.out); (case side3 => exact Kd.V_mk HC1_0.out (Kd.F_below (Kd.C_F (Kd.heap_int .i64) HR1_0.out) (zT))); rintro e w115 ⟨v115, rfl, ho0, hb⟩; refine ⟨_, rfl, ?_⟩; replace HO108 := zVb HO108 hb; replace HO112 := zVb HO112 hb; have HO116 := Aside0.mk (Kd.V_lower (Kd.V_mono (ok' := fun k_ => k_ ≠ gb101 ∧ k_ ≠ gb102) ho0 (fun k_ hk_ => ⟨Or.elim hk_ (fun hs_ => fun e_ => Nat.not_le.2 hs_ (by rw [e_]; exact GW101.out)) (fun hn_ => (Kd.freshB (zK BK101.out) k_ hn_)), Or.elim hk_ (fun hs_ => fun e_ => Nat.not_le.2 hs_ (by rw [e_]; exact GW102.out)) (fun hn_ => (Kd.freshB (zK BK102.out) k_ hn_))⟩)) (zS HB)); replace BK101 := zKb BK101 hb; replace BK102 := zKb BK102 hb; replace HB := zBb HB hb; (try clear hb); (try clear ho0); obtain ⟨hcz116_0, hcz116_1, hfz116_0, hfz116_1⟩ := zf2 BK101; obtain ⟨hcz117_0, hcz117_1, hcz117_2, hfz117_0, hfz117_1, hfz117_2⟩ := zf3 BK102) | ((with_reducible refine gate_callee (f := 11) rfl ?_); refine zG (some 59) Tryz.func11 #[.agg #[.int .i64 a0_0, .slice A0_1 l0_1.length c0_1], .slice A1_0 l1_0.length c1_0] ?_; (with_reducible refine (galoisref15_CheckElement.calls kj2 a0_0 _ _ l0_1 _ _ l1_0 t118 _ (zC (Kd.C_below HR0_1.out HB.out)) HC0_1.out (zC (Kd.C_below HR1_0.out HB.out)) HC1_0.out A28.out).mono ?_); rintro e w118 ⟨rfl, hb⟩; refine ⟨_, rfl, ?_⟩; replace HO108 := zVb HO108 hb; replace HO112 := zVb HO112 hb; replace HO116 := zVb HO116 hb; replace BK101 := zKb BK101 hb; replace BK102 := zKb BK102 hb; replace HB := zBb HB hb; (try clear hb); obtain ⟨Ao119, co119, eo119⟩ := Kd.V_slice HO108.out; subst eo119) | ((with_reducible refine gate_callee (f := 12) rfl ?_); refine zG (some 65) Tryz.func12 #[.slice Ao119 t106.length co119, .int .i64 t109, .int .i64 t118, .slice none 0 0] ?_; (refine (galoislaw15_right.calls kj2 _ _ t106 t109 t118 _ _ ([] : List Int) true _ ?side1 ?side2 ?side3 ?side4 A101.out).mono ?_); (case side1 => exact zC ((Kd.V_reads' HO108.out).2.2)); (case side2 => exact (Kd.V_reads' HO108.out).2.1); (case side3 => exact Kd.C_nil _ _); (case side4 => exact Nat.le_refl _); rintro e w' ⟨rfl, ⟨nd, rfl⟩⟩; refine ⟨_, rfl, ?_⟩; obtain ⟨Ao120, co120, eo120⟩ := Kd.V_slice HO112.out; subst eo120) | (go_at_call 12; refine calls_of_args (args' := #[.slice _ t110.length _, .int .i64 t113, .int .i64 t118, .slice none ([] : List Int).length 0]) rfl ?_; (with_reducible refine (galoislaw15_right.calls kj2 _ _ t110 t113 t118 _ _ ([] : List Int) true _ ?side1 ?side2 ?side3 ?side4 A103.out).mono ?_); (case side1 => exact zC ((Kd.V_reads' HO112.out).2.2)); (case side2 => exact (Kd.V_reads' HO112.out).2.1); (case side3 => exact Kd.C_nil _ _); (case side4 => exact Nat.le_refl _); rintro e w' ⟨rfl, ⟨nd, rfl⟩⟩; obtain ⟨Ao121, co121, eo121⟩ := Kd.V_slice HO116.out; subst eo121) | (go_at_call 12; refine calls_of_args (args' := #[.slice _ t114.length _, .int .i64 t117, .int .i64 t118, .slice none ([] : List Int).length 0]) rfl ?_; (with_reducible refine (galoislaw15_right.calls kj2 _ _ t114 t117 t118 _ _ ([] : List Int) t121 _ ?side1 ?side2 ?side3 ?side4 A105.out).mono ?_); (case side1 => exact zC ((Kd.V_reads' HO116.out).2.2)); (case side2 => exact (Kd.V_reads' HO116.out).2.1); (case side3 => exact Kd.C_nil _ _); (case side4 => exact Nat.le_refl _); rintro e w' ⟨rfl, ⟨nd, rfl⟩⟩))
    go_ret
    exact ⟨zQ, zT⟩
   rw [if_pos c29] at H
   obtain ⟨c29b0, c29b1⟩ := zE c29; clear c29
   obtain ⟨t122, A30, H⟩ := zO H
   have HC31 := Aside0.mk H
   clear H
   have hnb32 := NB101_102.out
   have hnc32 := NB102_101.out
   obtain ⟨hcz33_0, hcz33_1, hfz33_0, hfz33_1⟩ := zf2 BK101
   obtain ⟨hcz34_0, hcz34_1, hcz34_2, hfz34_0, hfz34_1, hfz34_2⟩ := zf3 BK102
   go_upto_if 81 with (first | ((with_reducible refine gate_callee (f := 8) rfl ?_); refine zG (some 37) Tryz.func8 #[.agg #[.int .i64 a0_0, .slice A0_1 l0_1.length c0_1], .slice A1_0 l1_0.length c1_0, .slice A1_1 l1_1.length c1_1] ?_; (with_reducible refine (finitefield_Div.calls kj2 a0_0 (fun k_ => k_ < w.heap.size) _ _ l0_1 (fun k_ => k_ < w.heap.size) _ _ l1_0 (fun k_ => k_ < w.heap.size) _ _ l1_1 t106 t109 _ ?side1 ?side2 ?side3 A25.out).mono ?_); (case side1 => exact Kd.V_mk HC0_1.out (Kd.F_below (Kd.C_F (Kd.heap_int .i64) HR0_1.out) (zT))); (case side2 => exact Kd.V_mk HC1_0.out (Kd.F_below (Kd.C_F (Kd.heap_int .i64) HR1_0.out) (zT))); (case side3 => exact Kd.V_mk HC1_1.out (Kd.F_below (Kd.C_F (Kd.heap_int .i64) HR1_1.out) (zT))); rintro e w35 ⟨v107, rfl, ho0, hb⟩; refine ⟨_, rfl, ?_⟩; have HO108 := Aside0.mk (Kd.V_lower (Kd.V_mono (ok' := fun k_ => k_ ≠ gb101 ∧ k_ ≠ gb102) ho0 (fun k_ hk_ => ⟨Or.elim hk_ (fun hs_ => Or.elim hs_ (fun hs_ => fun e_ => Nat.not_le.2 hs_ (by rw [e_]; exact GW101.out)) (fun hs_ => Or.elim hs_ (fun hs_ => fun e_ => Nat.not_le.2 hs_ (by rw [e_]; exact GW101.out)) (fun hs_ => fun e_ => Nat.not_le.2 hs_ (by rw [e_]; exact GW101.out)))) (fun hn_ => (Kd.freshB (zK BK101.out) k_ hn_)), Or.elim hk_ (fun hs_ => Or.elim hs_ (fun hs_ => fun e_ => Nat.not_le.2 hs_ (by rw [e_]; exact GW102.out)) (fun hs_ => Or.elim hs_ (fun hs_ => fun e_ => Nat.not_le.2 hs_ (by rw [e_]; exact GW102.out)) (fun hs_ => fun e_ => Nat.not_le.2 hs_ (by rw [e_]; exact GW102.out)))) (fun hn_ => (Kd.freshB (zK BK102.out) k_ hn_))⟩)) (zS HB)); replace BK101 := zKb BK101 hb; replace BK102 := zKb BK102 hb; replace HB := zBb HB hb; (try clear hb); (try clear ho0); obtain ⟨hcz36_0, hcz36_1, hfz36_0, hfz36_1⟩ := zf2 BK101; obtain ⟨hcz37_0, hcz37_1, hcz37_2, hfz37_0, hfz37_1, hfz37_2⟩ := zf3 BK102) | ((with_reducible refine gate_callee (f := 9) rfl ?_); refine zG (some 44) Tryz.func9 #[.agg #[.int .i64 a0_0, .slice A0_1 l0_1.length c0_1], .slice A1_0 l1_0.length c1_0] ?_; (with_reducible refine (finitefield_Inverse.calls kj2 a0_0 (fun k_ => k_ < w.heap.size) _ _ l0_1 (fun k_ => k_ < w.heap.size) _ _ l1_0 t110 t113 _ ?side1 ?side2 A26.out).mono ?_); (case side1 => exact Kd.V_mk HC0_1.out (Kd.F_below (Kd.C_F (Kd.heap_int .i64) HR0_1.out) (zT))); (case side2 => exact Kd.V_mk HC1_0.out (Kd.F_below (Kd.C_F (Kd.heap_int .i64) HR1_0.out) (zT))); rintro e w38 ⟨v111, rfl, ho0, hb⟩; refine ⟨_, rfl, ?_⟩; replace HO108 := zVb HO108 hb; have HO112 := Aside0.mk (Kd.V_lower (Kd.V_mono (ok' := fun k_ => k_ ≠ gb101 ∧ k_ ≠ gb102) ho0 (fun k_ hk_ => ⟨Or.elim hk_ (fun hs_ => Or.elim hs_ (fun hs_ => fun e_ => Nat.not_le.2 hs_ (by rw [e_]; exact GW101.out)) (fun hs_ => fun e_ => Nat.not_le.2 hs_ (by rw [e_]; exact GW101.out))) (fun hn_ => (Kd.freshB (zK BK101.out) k_ hn_)), Or.elim hk_ (fun hs_ => Or.elim hs_ (fun hs_ => fun e_ => Nat.not_le.2 hs_ (by rw [e_]; exact GW102.out)) (fun hs_ => fun e_ => Nat.not_le.2 hs_ (by rw [e_]; exact GW102.out))) (fun hn_ => (Kd.freshB (zK BK102.out) k_ hn_))⟩)) (zS HB)); replace BK101 := zKb BK101 hb; replace BK102 := zKb BK102 hb; replace HB := zBb HB hb; (try clear hb); (try clear ho0); obtain ⟨hcz39_0, hcz39_1, hfz39_0, hfz39_1⟩ := zf2 BK101; obtain ⟨hcz40_0, hcz40_1, hcz40_2, hfz40_0, hfz40_1, hfz40_2⟩ := zf3 BK102) | ((with_reducible refine gate_callee (f := 10) rfl ?_); refine zG (some 53) Tryz.func10 #[.agg #[.int .i64 a0_0, .slice A0_1 l0_1.length c0_1], .slice A1_0 l1_0.length c1_0, .string a1_2] ?_; (with_reducible refine (finitefield_Pow.calls kj2 a0_0 _ _ l0_1 (fun k_ => k_ < w.heap.size) _ _ l1_0 a1_2 t114 t117 _ ?side1 ?side2 ?side3 A27.out).mono ?_); (case side1 => exact zC (Kd.C_below HR0_1.out HB.out)); (case side2 => exact HC0_1.out); (case side3 => exact Kd.V_mk HC1_0.out (Kd.F_below (Kd.C_F (Kd.heap_int .i64) HR1_0.out) (zT))); rintro e w41 ⟨v115, rfl, ho0, hb⟩; refine ⟨_, rfl, ?_⟩; replace HO108 := zVb HO108 hb; replace HO112 := zVb HO112 hb; have HO116 := Aside0.mk (Kd.V_lower (Kd.V_mono (ok' := fun k_ => k_ ≠ gb101 ∧ k_ ≠ gb102) ho0 (fun k_ hk_ => ⟨Or.elim hk_ (fun hs_ => fun e_ => Nat.not_le.2 hs_ (by rw [e_]; exact GW101.out)) (fun hn_ => (Kd.freshB (zK BK101.out) k_ hn_)), Or.elim hk_ (fun hs_ => fun e_ => Nat.not_le.2 hs_ (by rw [e_]; exact GW102.out)) (fun hn_ => (Kd.freshB (zK BK102.out) k_ hn_))⟩)) (zS HB)); replace BK101 := zKb BK101 hb; replace BK102 := zKb BK102 hb; replace HB := zBb HB hb; (try clear hb); (try clear ho0); obtain ⟨hcz42_0, hcz42_1, hfz42_0, hfz42_1⟩ := zf2 BK101; obtain ⟨hcz43_0, hcz43_1, hcz43_2, hfz43_0, hfz43_1, hfz43_2⟩ := zf3 BK102) | ((with_reducible refine gate_callee (f := 11) rfl ?_); refine zG (some 59) Tryz.func11 #[.agg #[.int .i64 a0_0, .slice A0_1 l0_1.length c0_1], .slice A1_0 l1_0.length c1_0] ?_; (with_reducible refine (galoisref15_CheckElement.calls kj2 a0_0 _ _ l0_1 _ _ l1_0 t118 _ (zC (Kd.C_below HR0_1.out HB.out)) HC0_1.out (zC (Kd.C_below HR1_0.out HB.out)) HC1_0.out A28.out).mono ?_); rintro e w44 ⟨rfl, hb⟩; refine ⟨_, rfl, ?_⟩; replace HO108 := zVb HO108 hb; replace HO112 := zVb HO112 hb; replace HO116 := zVb HO116 hb; replace BK101 := zKb BK101 hb; replace BK102 := zKb BK102 hb; replace HB := zBb HB hb; (try clear hb); obtain ⟨hcz45_0, hcz45_1, hcz45_2, hfz45_0, hfz45_1, hfz45_2⟩ := zf3 BK102) | ((with_reducible refine gate_callee (f := 13) rfl ?_); refine zG (some 80) Tryz.func13 #[.string a1_2] ?_; (with_reducible refine (galoisref01_Check.calls a1_2 t122 _ A30.out).mono ?_); rintro e w' ⟨rfl, ⟨nd, rfl⟩⟩; refine ⟨_, rfl, ?_⟩))
   (try simp only [Act.put, List.setIfInBounds_toArray, List.set_cons_zero, List.set_cons_succ])
   go_cut [] (fun wc => ∃ (kq : Nat), Aside0 (galoislaw15_FinitefieldQuotients.j1 kq t106 t109 t110 t113 a0_0 l0_1 l1_0 l1_1 a1_2 = some r) ∧ Aside0 (kq ≤ kj2) ∧ Aside0 (Kd.V (Kd.int .i64) 3 wc w.heap.size (fun k_ => k_ ≠ gb101 ∧ k_ ≠ gb102) v107 t106) ∧ Aside0 (Kd.V (Kd.int .i64) 3 wc w.heap.size (fun k_ => k_ ≠ gb101 ∧ k_ ≠ gb102) v111 t110) ∧ Aside0 (wc.heap[gb101]? = some (.cells #[.int .i64 a0_0, (.slice A0_1 l0_1.length c0_1)] 25 (0, 0))) ∧ Aside0 (wc.heap[gb102]? = some (.cells #[(.slice A1_0 l1_0.length c1_0), (.slice A1_1 l1_1.length c1_1), .string a1_2] 28 (0, 0))) ∧ Aside0 (Below w.heap.size w wc))
   case first =>
    have H := HC31.out
    clear HC31
    by_cases c46 : t122 = 0
    rotate_left
    ·rw [if_neg c46] at H
     obtain ⟨c46b0, c46b1⟩ := zU c46
     (first | rw [c46b0] | (simp only [i64_w, i32_w]; rw [c46b0]) | skip)
     obtain ⟨t127, A56, H⟩ := zO H
     obtain ⟨t128, A57, H⟩ := zO H
     by_cases c58 : t128 = true
     rotate_left
     ·replace c58 := Bool.eq_false_iff.mpr c58
      subst c58
      rw [if_neg Bool.false_ne_true] at H
      exact absurd H (by simp)
     subst c58
     rw [if_pos rfl] at H
     have H' := Aside0.mk H
     clear H
     have hnb59 := NB102_101.out
     have hnc59 := NB101_102.out
     obtain ⟨hcz60_0, hcz60_1, hcz60_2, hfz60_0, hfz60_1, hfz60_2⟩ := zf3 BK102
     go_wp2_with (first | ((with_reducible refine gate_callee (f := 13) rfl ?_); refine zG (some 86) Tryz.func13 #[.string a1_2] ?_; (with_reducible refine (galoisref01_Check.calls a1_2 t127 _ A56.out).mono ?_); rintro e w' ⟨rfl, ⟨nd, rfl⟩⟩; refine ⟨_, rfl, ?_⟩; obtain ⟨Ao61, co61, eo61⟩ := Kd.V_slice HO116.out; subst eo61) | ((with_reducible refine gate_callee (f := 12) rfl ?_); refine zG (some 87) Tryz.func12 #[.slice Ao61 t114.length co61, .int .i64 t117, .int .i64 t127, .slice none 0 0] ?_; (refine (galoislaw15_right.calls kj2 _ _ t114 t117 t127 _ _ ([] : List Int) true _ ?side1 ?side2 ?side3 ?side4 A57.out).mono ?_); (case side1 => exact zC ((Kd.V_reads' HO116.out).2.2)); (case side2 => exact (Kd.V_reads' HO116.out).2.1); (case side3 => exact Kd.C_nil _ _); (case side4 => exact Nat.le_refl _); rintro e w' ⟨rfl, ⟨nd, rfl⟩⟩; refine ⟨_, rfl, ?_⟩))
     go_meet
     case rel => exact ⟨_, H', ⟨by have := HJ2.out; first | omega | exact Nat.le_refl _⟩, ⟨zV HO108.out⟩, ⟨zV HO112.out⟩, ⟨zK BK101.out⟩, ⟨zK BK102.out⟩, ⟨zT⟩⟩
    rw [if_pos c46] at H
    obtain ⟨c46b0, c46b1⟩ := zE c46; clear c46
    (first | rw [c46b0] | (simp only [i64_w, i32_w]; rw [c46b0]) | skip)
    obtain ⟨t123, A47, H⟩ := zO H
    obtain ⟨t126, A48, H⟩ := zO H
    by_cases c49 : t126 = true
    rotate_left
    ·replace c49 := Bool.eq_false_iff.mpr c49
     subst c49
     rw [if_neg Bool.false_ne_true] at H
     exact absurd H (by simp)
    subst c49
    rw [if_pos rfl] at H
    have H' := Aside0.mk H
    clear H
    have hnb50 := NB101_102.out
    have hnc50 := NB102_101.out
    obtain ⟨hcz51_0, hcz51_1, hfz51_0, hfz51_1⟩ := zf2 BK101
    obtain ⟨hcz52_0, hcz52_1, hcz52_2, hfz52_0, hfz52_1, hfz52_2⟩ := zf3 BK102
    go_wp2_with (first | ((with_reducible refine gate_callee (f := 14) rfl ?_); refine zG (some 96) Tryz.func14 #[.agg #[.int .i64 a0_0, .slice A0_1 l0_1.length c0_1], .slice A1_0 l1_0.length c1_0, .string a1_2] ?_; (with_reducible refine (galoisref15_Pow.calls kj2 a0_0 _ _ l0_1 _ _ l1_0 a1_2 t123 _ (zC (Kd.C_below HR0_1.out HB.out)) HC0_1.out (zC (Kd.C_below HR1_0.out HB.out)) HC1_0.out A47.out).mono ?_); rintro e w53 ⟨v124, rfl, ho0, hb⟩; refine ⟨_, rfl, ?_⟩; replace HO108 := zVb HO108 hb; replace HO112 := zVb HO112 hb; replace HO116 := zVb HO116 hb; have HO125 := zWV (fun k_ => k_ ≠ gb101 ∧ k_ ≠ gb102) ho0 HB (fun k_ hk_ => ⟨(Kd.freshB (zK BK101.out) k_ hk_), (Kd.freshB (zK BK102.out) k_ hk_)⟩); replace BK101 := zKb BK101 hb; replace BK102 := zKb BK102 hb; replace HB := zBb HB hb; (try clear hb); (try clear ho0); obtain ⟨Ao54, co54, eo54⟩ := Kd.V_slice HO116.out; subst eo54; obtain ⟨Ao55, co55, eo55⟩ := Kd.V_slice HO125.out; subst eo55) | ((with_reducible refine gate_callee (f := 12) rfl ?_); refine zG (some 97) Tryz.func12 #[.slice Ao54 t114.length co54, .int .i64 t117, .int .i64 0, .slice Ao55 t123.length co55] ?_; (with_reducible refine (galoislaw15_right.calls kj2 _ _ t114 t117 0 _ _ t123 true _ (zC ((Kd.V_reads' HO116.out).2.2)) ((Kd.V_reads' HO116.out).2.1) (zC ((Kd.V_reads' HO125.out).2.2)) ((Kd.V_reads' HO125.out).2.1) A48.out).mono ?_); rintro e w' ⟨rfl, ⟨nd, rfl⟩⟩; refine ⟨_, rfl, ?_⟩))
    go_meet
    case rel => exact ⟨_, H', ⟨by have := HJ2.out; first | omega | exact Nat.le_refl _⟩, ⟨zV HO108.out⟩, ⟨zV HO112.out⟩, ⟨zK BK101.out⟩, ⟨zK BK102.out⟩, ⟨zT⟩⟩
   case rest =>
    clear HC31
    try clear c1; try clear c2; try clear p2; try clear c3; try clear c4; try clear c5; try clear c6; try clear c7; try clear c8; try clear c9; try clear c10; try clear c11; try clear c12; try clear c13; try clear c14; try clear c17; try clear c22; try clear c29; try clear c29b0; try clear c29b1; try clear c32; try clear c46; try clear c46b0; try clear c46b1; try clear c49; try clear c50; try clear c58; try clear c59; try clear hcz12_0; try clear hcz12_1; try clear hcz13_0; try clear hcz13_1; try clear hcz13_2; try clear hcz15_0; try clear hcz15_1; try clear hcz15_2; try clear hcz18_0; try clear hcz18_1; try clear hcz19_0; try clear hcz19_1; try clear hcz19_2; try clear hcz33_0; try clear hcz33_1; try clear hcz34_0; try clear hcz34_1; try clear hcz34_2; try clear hcz36_0; try clear hcz36_1; try clear hcz37_0; try clear hcz37_1; try clear hcz37_2; try clear hcz39_0; try clear hcz39_1; try clear hcz40_0; try clear hcz40_1; try clear hcz40_2; try clear hcz42_0; try clear hcz42_1; try clear hcz43_0; try clear hcz43_1; try clear hcz43_2; try clear hcz45_0; try clear hcz45_1; try clear hcz45_2; try clear hcz51_0; try clear hcz51_1; try clear hcz52_0; try clear hcz52_1; try clear hcz52_2; try clear hcz60_0; try clear hcz60_1; try clear hcz60_2; try clear hfz12_0; try clear hfz12_1; try clear hfz13_0; try clear hfz13_1; try clear hfz13_2; try clear hfz15_0; try clear hfz15_1; try clear hfz15_2; try clear hfz18_0; try clear hfz18_1; try clear hfz19_0; try clear hfz19_1; try clear hfz19_2; try clear hfz33_0; try clear hfz33_1; try clear hfz34_0; try clear hfz34_1; try clear hfz34_2; try clear hfz36_0; try clear hfz36_1; try clear hfz37_0; try clear hfz37_1; try clear hfz37_2; try clear hfz39_0; try clear hfz39_1; try clear hfz40_0; try clear hfz40_1; try clear hfz40_2; try clear hfz42_0; try clear hfz42_1; try clear hfz43_0; try clear hfz43_1; try clear hfz43_2; try clear hfz45_0; try clear hfz45_1; try clear hfz45_2; try clear hfz51_0; try clear hfz51_1; try clear hfz52_0; try clear hfz52_1; try clear hfz52_2; try clear hfz60_0; try clear hfz60_1; try clear hfz60_2; try clear p2
    obtain ⟨kq, HA, HJ30, HO_5, HO_7, BK101, BK102, HB⟩ := hcut
    cases kq with
    | zero => exact absurd HA.out (by simp [galoislaw15_FinitefieldQuotients.j1])
    | succ kj30 =>
     have H := HA.out
     clear HA
     simp only [galoislaw15_FinitefieldQuotients.j1] at H
     have HC62 := Aside0.mk H
     clear H
     have hnb63 := NB102_101.out
     have hnc63 := NB101_102.out
     obtain ⟨hcz64_0, hcz64_1, hcz64_2, hfz64_0, hfz64_1, hfz64_2⟩ := zf3 BK102
     go_upto_if 102 with (fail)
     go_cut [] (fun wc => ∃ (kq : Nat), Aside0 (galoislaw15_FinitefieldQuotients.j2 kq t106 t109 a0_0 l0_1 l1_0 l1_1 a1_2 = some r) ∧ Aside0 (kq ≤ kj30) ∧ Aside0 (Kd.V (Kd.int .i64) 3 wc w.heap.size (fun k_ => k_ ≠ gb101 ∧ k_ ≠ gb102) v107 t106) ∧ Aside0 (wc.heap[gb101]? = some (.cells #[.int .i64 a0_0, (.slice A0_1 l0_1.length c0_1)] 25 (0, 0))) ∧ Aside0 (wc.heap[gb102]? = some (.cells #[(.slice A1_0 l1_0.length c1_0), (.slice A1_1 l1_1.length c1_1), .string a1_2] 28 (0, 0))) ∧ Aside0 (Below w.heap.size w wc))
     case first =>
      have H := HC62.out
      clear HC62
      by_cases c65 : (l1_0.length : Int) = 0
      ·rw [if_pos c65] at H
       obtain ⟨c65b0, c65b1⟩ := zE c65; clear c65
       (first | rw [c65b0] | (simp only [i64_w, i32_w]; rw [c65b0]) | skip)
       obtain ⟨t129, A66, H⟩ := zO H
       by_cases c67 : t129 = true
       rotate_left
       ·replace c67 := Bool.eq_false_iff.mpr c67
        subst c67
        rw [if_neg Bool.false_ne_true] at H
        exact absurd H (by simp)
       subst c67
       rw [if_pos rfl] at H
       have H' := Aside0.mk H
       clear H
       obtain ⟨Ao68, co68, eo68⟩ := Kd.V_slice HO_7.out
       subst eo68
       go_wp2_with (first | ((with_reducible refine gate_callee (f := 12) rfl ?_); refine zG (some 105) Tryz.func12 #[.slice Ao68 t110.length co68, .int .i64 t113, .int .i64 6, .slice none 0 0] ?_; (refine (galoislaw15_right.calls kj30 _ _ t110 t113 6 _ _ ([] : List Int) true _ ?side1 ?side2 ?side3 ?side4 A66.out).mono ?_); (case side1 => exact zC ((Kd.V_reads' HO_7.out).2.2)); (case side2 => exact (Kd.V_reads' HO_7.out).2.1); (case side3 => exact Kd.C_nil _ _); (case side4 => exact Nat.le_refl _); rintro e w' ⟨rfl, ⟨nd, rfl⟩⟩; refine ⟨_, rfl, ?_⟩))
       go_meet
       case rel => exact ⟨_, H', ⟨by have := HJ2.out; have := HJ30.out; first | omega | exact Nat.le_refl _⟩, ⟨zV HO_5.out⟩, ⟨zK BK101.out⟩, ⟨zK BK102.out⟩, ⟨zT⟩⟩
      rw [if_neg c65] at H
      obtain ⟨c65b0, c65b1⟩ := zU c65
      have c65b2 : ¬ (l1_0 = []) := fun h_ => c65 (by rw [h_]; rfl)
      (first | rw [c65b0] | (simp only [i64_w, i32_w]; rw [c65b0]) | skip)
      obtain ⟨t130, A69, H⟩ := zO H
      obtain ⟨t133, A70, H⟩ := zO H
      by_cases c71 : t133 = true
      rotate_left
      ·replace c71 := Bool.eq_false_iff.mpr c71
       subst c71
       rw [if_neg Bool.false_ne_true] at H
       exact absurd H (by simp)
      subst c71
      rw [if_pos rfl] at H
      have H' := Aside0.mk H
      clear H
      have hnb72 := NB101_102.out
      have hnc72 := NB102_101.out
      obtain ⟨hcz73_0, hcz73_1, hfz73_0, hfz73_1⟩ := zf2 BK101
      obtain ⟨hcz74_0, hcz74_1, hcz74_2, hfz74_0, hfz74_1, hfz74_2⟩ := zf3 BK102
      go_wp2_with (first | ((with_reducible refine gate_callee (f := 15) rfl ?_); refine zG (some 112) Tryz.func15 #[.agg #[.int .i64 a0_0, .slice A0_1 l0_1.length c0_1], .slice A1_0 l1_0.length c1_0] ?_; (with_reducible refine (galoisref15_Inverse.calls kj30 a0_0 (fun k_ => k_ < w.heap.size) _ _ l0_1 _ _ l1_0 t130 _ ?side1 ?side2 ?side3 A69.out).mono ?_); (case side1 => exact Kd.V_mk HC0_1.out (Kd.F_below (Kd.C_F (Kd.heap_int .i64) HR0_1.out) (zT))); (case side2 => exact zC (Kd.C_below HR1_0.out HB.out)); (case side3 => exact HC1_0.out); rintro e w75 ⟨v131, rfl, ho0, hb⟩; refine ⟨_, rfl, ?_⟩; replace HO_5 := zVb HO_5 hb; replace HO_7 := zVb HO_7 hb; have HO132 := Aside0.mk (Kd.V_lower (Kd.V_mono (ok' := fun k_ => k_ ≠ gb101 ∧ k_ ≠ gb102) ho0 (fun k_ hk_ => ⟨Or.elim hk_ (fun hs_ => fun e_ => Nat.not_le.2 hs_ (by rw [e_]; exact GW101.out)) (fun hn_ => (Kd.freshB (zK BK101.out) k_ hn_)), Or.elim hk_ (fun hs_ => fun e_ => Nat.not_le.2 hs_ (by rw [e_]; exact GW102.out)) (fun hn_ => (Kd.freshB (zK BK102.out) k_ hn_))⟩)) (zS HB)); replace BK101 := zKb BK101 hb; replace BK102 := zKb BK102 hb; replace HB := zBb HB hb; (try clear hb); (try clear ho0); obtain ⟨Ao76, co76, eo76⟩ := Kd.V_slice HO_7.out; subst eo76; obtain ⟨Ao77, co77, eo77⟩ := Kd.V_slice HO132.out; subst eo77) | ((with_reducible refine gate_callee (f := 12) rfl ?_); refine zG (some 113) Tryz.func12 #[.slice Ao76 t110.length co76, .int .i64 t113, .int .i64 0, .slice Ao77 t130.length co77] ?_; (with_reducible refine (galoislaw15_right.calls kj30 _ _ t110 t113 0 _ _ t130 true _ (zC ((Kd.V_reads' HO_7.out).2.2)) ((Kd.V_reads' HO_7.out).2.1) (zC ((Kd.V_reads' HO132.out).2.2)) ((Kd.V_reads' HO132.out).2.1) A70.out).mono ?_); rintro e w' ⟨rfl, ⟨nd, rfl⟩⟩; refine ⟨_, rfl, ?_⟩))
      go_meet
      case rel => exact ⟨_, H', ⟨by have := HJ2.out; have := HJ30.out; first | omega | exact Nat.le_refl _⟩, ⟨zV HO_5.out⟩, ⟨zK BK101.out⟩, ⟨zK BK102.out⟩, ⟨zT⟩⟩
     case rest =>
      clear HC62
      try clear c1; try clear c2; try clear p2; try clear c3; try clear c4; try clear c5; try clear c6; try clear c7; try clear c8; try clear c9; try clear c10; try clear c11; try clear c12; try clear c13; try clear c14; try clear c15; try clear c17; try clear c22; try clear c29; try clear c29b0; try clear c29b1; try clear c32; try clear c46; try clear c46b0; try clear c46b1; try clear c49; try clear c50; try clear c58; try clear c59; try clear c63; try clear c65; try clear c65b0; try clear c65b1; try clear c65b2; try clear c67; try clear c71; try clear c72; try clear hcz12_0; try clear hcz12_1; try clear hcz13_0; try clear hcz13_1; try clear hcz13_2; try clear hcz15_0; try clear hcz15_1; try clear hcz15_2; try clear hcz18_0; try clear hcz18_1; try clear hcz19_0; try clear hcz19_1; try clear hcz19_2; try clear hcz33_0; try clear hcz33_1; try clear hcz34_0; try clear hcz34_1; try clear hcz34_2; try clear hcz36_0; try clear hcz36_1; try clear hcz37_0; try clear hcz37_1; try clear hcz37_2; try clear hcz39_0; try clear hcz39_1; try clear hcz40_0; try clear hcz40_1; try clear hcz40_2; try clear hcz42_0; try clear hcz42_1; try clear hcz43_0; try clear hcz43_1; try clear hcz43_2; try clear hcz45_0; try clear hcz45_1; try clear hcz45_2; try clear hcz51_0; try clear hcz51_1; try clear hcz52_0; try clear hcz52_1; try clear hcz52_2; try clear hcz60_0; try clear hcz60_1; try clear hcz60_2; try clear hcz64_0; try clear hcz64_1; try clear hcz64_2; try clear hcz73_0; try clear hcz73_1; try clear hcz74_0; try clear hcz74_1; try clear hcz74_2; try clear hfz12_0; try clear hfz12_1; try clear hfz13_0; try clear hfz13_1; try clear hfz13_2; try clear hfz15_0; try clear hfz15_1; try clear hfz15_2; try clear hfz18_0; try clear hfz18_1; try clear hfz19_0; try clear hfz19_1; try clear hfz19_2; try clear hfz33_0; try clear hfz33_1; try clear hfz34_0; try clear hfz34_1; try clear hfz34_2; try clear hfz36_0; try clear hfz36_1; try clear hfz37_0; try clear hfz37_1; try clear hfz37_2; try clear hfz39_0; try clear hfz39_1; try clear hfz40_0; try clear hfz40_1; try clear hfz40_2; try clear hfz42_0; try clear hfz42_1; try clear hfz43_0; try clear hfz43_1; try clear hfz43_2; try clear hfz45_0; try clear hfz45_1; try clear hfz45_2; try clear hfz51_0; try clear hfz51_1; try clear hfz52_0; try clear hfz52_1; try clear hfz52_2; try clear hfz60_0; try clear hfz60_1; try clear hfz60_2; try clear hfz64_0; try clear hfz64_1; try clear hfz64_2; try clear hfz73_0; try clear hfz73_1; try clear hfz74_0; try clear hfz74_1; try clear hfz74_2; try clear p2
      obtain ⟨kq, HA, HJ61, HO_5, BK101, BK102, HB⟩ := hcut
      cases kq with
      | zero => exact absurd HA.out (by simp [galoislaw15_FinitefieldQuotients.j2])
      | succ kj61 =>
       have H := HA.out
       clear HA
       simp only [galoislaw15_FinitefieldQuotients.j2] at H
       obtain ⟨t134, A78, H⟩ := zO H
       have HC79 := Aside0.mk H
       clear H
       have hnb80 := NB101_102.out
       have hnc80 := NB102_101.out
       obtain ⟨hcz81_0, hcz81_1, hfz81_0, hfz81_1⟩ := zf2 BK101
       obtain ⟨hcz82_0, hcz82_1, hcz82_2, hfz82_0, hfz82_1, hfz82_2⟩ := zf3 BK102
       go_upto_region 20 with (first | ((with_reducible refine gate_callee (f := 16) rfl ?_); refine zG (some 118) Tryz.func16 #[.agg #[.int .i64 a0_0, .slice A0_1 l0_1.length c0_1], .slice A1_1 l1_1.length c1_1] ?_; (with_reducible refine (galoisref15_Member.calls kj61 a0_0 _ _ l0_1 _ _ l1_1 t134 _ (zC (Kd.C_below HR0_1.out HB.out)) HC0_1.out (zC (Kd.C_below HR1_1.out HB.out)) HC1_1.out A78.out).mono ?_); rintro e w83 ⟨rfl, hb⟩; refine ⟨_, rfl, ?_⟩; replace HO_5 := zVb HO_5 hb; replace BK101 := zKb BK101 hb; replace BK102 := zKb BK102 hb; replace HB := zBb HB hb; (try clear hb)))
       (try simp only [Act.put, List.setIfInBounds_toArray, List.set_cons_zero, List.set_cons_succ])
       go_cut [126] (fun v126 wc => ∃ (kq : Nat) (x126_78 : Bool), v126 = .bool x126_78 ∧ Aside0 (galoislaw15_FinitefieldQuotients.j3 kq t106 t109 t134 x126_78 a0_0 l0_1 l1_0 l1_1 a1_2 = some r) ∧ Aside0 (kq ≤ kj61) ∧ Aside0 (Kd.V (Kd.int .i64) 3 wc w.heap.size (fun k_ => k_ ≠ gb101 ∧ k_ ≠ gb102) v107 t106) ∧ Aside0 (wc.heap[gb101]? = some (.cells #[.int .i64 a0_0, (.slice A0_1 l0_1.length c0_1)] 25 (0, 0))) ∧ Aside0 (wc.heap[gb102]? = some (.cells #[(.slice A1_0 l1_0.length c1_0), (.slice A1_1 l1_1.length c1_1), .string a1_2] 28 (0, 0))) ∧ Aside0 (Below w.heap.size w wc))
       case first =>
        have H := HC79.out
        clear HC79
        by_cases c84 : t134 = 0
        rotate_left
        ·rw [if_neg c84] at H
         obtain ⟨c84b0, c84b1⟩ := zU c84
         (first | rw [c84b0] | (simp only [i64_w, i32_w]; rw [c84b0]) | skip)
         have H' := Aside0.mk H
         clear H
         go_wp2
         go_meet
         case rel => exact ⟨_, (false), zX, H', ⟨by have := HJ2.out; have := HJ30.out; have := HJ61.out; first | omega | exact Nat.le_refl _⟩, ⟨zV HO_5.out⟩, ⟨zK BK101.out⟩, ⟨zK BK102.out⟩, ⟨zT⟩⟩
        rw [if_pos c84] at H
        obtain ⟨c84b0, c84b1⟩ := zE c84; clear c84
        (first | rw [c84b0] | (simp only [i64_w, i32_w]; rw [c84b0]) | skip)
        have H' := Aside0.mk H
        clear H
        have hnb85 := NB102_101.out
        have hnc85 := NB101_102.out
        obtain ⟨hcz86_0, hcz86_1, hcz86_2, hfz86_0, hfz86_1, hfz86_2⟩ := zf3 BK102
        go_wp2
        go_meet
        case rel => exact ⟨_, (((l1_1.length : Int) == 0)), zX, H', ⟨by have := HJ2.out; have := HJ30.out; have := HJ61.out; first | omega | exact Nat.le_refl _⟩, ⟨zV HO_5.out⟩, ⟨zK BK101.out⟩, ⟨zK BK102.out⟩, ⟨zT⟩⟩
       case rest =>
        clear HC79
        try clear c1; try clear c2; try clear p2; try clear c3; try clear c4; try clear c5; try clear c6; try clear c7; try clear c8; try clear c9; try clear c10; try clear c11; try clear c12; try clear c13; try clear c14; try clear c15; try clear c16; try clear c17; try clear c22; try clear c29; try clear c29b0; try clear c29b1; try clear c32; try clear c46; try clear c46b0; try clear c46b1; try clear c49; try clear c50; try clear c58; try clear c59; try clear c63; try clear c65; try clear c65b0; try clear c65b1; try clear c65b2; try clear c67; try clear c71; try clear c72; try clear c80; try clear c84; try clear c84b0; try clear c84b1; try clear c85; try clear hcz12_0; try clear hcz12_1; try clear hcz13_0; try clear hcz13_1; try clear hcz13_2; try clear hcz15_0; try clear hcz15_1; try clear hcz15_2; try clear hcz18_0; try clear hcz18_1; try clear hcz19_0; try clear hcz19_1; try clear hcz19_2; try clear hcz33_0; try clear hcz33_1; try clear hcz34_0; try clear hcz34_1; try clear hcz34_2; try clear hcz36_0; try clear hcz36_1; try clear hcz37_0; try clear hcz37_1; try clear hcz37_2; try clear hcz39_0; try clear hcz39_1; try clear hcz40_0; try clear hcz40_1; try clear hcz40_2; try clear hcz42_0; try clear hcz42_1; try clear hcz43_0; try clear hcz43_1; try clear hcz43_2; try clear hcz45_0; try clear hcz45_1; try clear hcz45_2; try clear hcz51_0; try clear hcz51_1; try clear hcz52_0; try clear hcz52_1; try clear hcz52_2; try clear hcz60_0; try clear hcz60_1; try clear hcz60_2; try clear hcz64_0; try clear hcz64_1; try clear hcz64_2; try clear hcz73_0; try clear hcz73_1; try clear hcz74_0; try clear hcz74_1; try clear hcz74_2; try clear hcz81_0; try clear hcz81_1; try clear hcz82_0; try clear hcz82_1; try clear hcz82_2; try clear hcz86_0; try clear hcz86_1; try clear hcz86_2; try clear hfz12_0; try clear hfz12_1; try clear hfz13_0; try clear hfz13_1; try clear hfz13_2; try clear hfz15_0; try clear hfz15_1; try clear hfz15_2; try clear hfz18_0; try clear hfz18_1; try clear hfz19_0; try clear hfz19_1; try clear hfz19_2; try clear hfz33_0; try clear hfz33_1; try clear hfz34_0; try clear hfz34_1; try clear hfz34_2; try clear hfz36_0; try clear hfz36_1; try clear hfz37_0; try clear hfz37_1; try clear hfz37_2; try clear hfz39_0; try clear hfz39_1; try clear hfz40_0; try clear hfz40_1; try clear hfz40_2; try clear hfz42_0; try clear hfz42_1; try clear hfz43_0; try clear hfz43_1; try clear hfz43_2; try clear hfz45_0; try clear hfz45_1; try clear hfz45_2; try clear hfz51_0; try clear hfz51_1; try clear hfz52_0; try clear hfz52_1; try clear hfz52_2; try clear hfz60_0; try clear hfz60_1; try clear hfz60_2; try clear hfz64_0; try clear hfz64_1; try clear hfz64_2; try clear hfz73_0; try clear hfz73_1; try clear hfz74_0; try clear hfz74_1; try clear hfz74_2; try clear hfz81_0; try clear hfz81_1; try clear hfz82_0; try clear hfz82_1; try clear hfz82_2; try clear hfz86_0; try clear hfz86_1; try clear hfz86_2; try clear p2
        obtain ⟨kq, x126_78, rfl, HA, HJ78, HO_5, BK101, BK102, HB⟩ := hcut
        cases kq with
        | zero => exact absurd HA.out (by simp [galoislaw15_FinitefieldQuotients.j3])
        | succ kj78 =>
         have H := HA.out
         clear HA
         simp only [galoislaw15_FinitefieldQuotients.j3] at H
         have HC87 := Aside0.mk H
         clear H
         go_upto_if 126 with (fail)
         go_cut [12] (fun v12 wc => ∃ (kq : Nat) (x12_86 : Int), v12 = .int .i64 x12_86 ∧ Aside0 (galoislaw15_FinitefieldQuotients.j4 kq t106 t109 x12_86 a0_0 l0_1 l1_0 l1_1 a1_2 = some r) ∧ Aside0 (kq ≤ kj78) ∧ Aside0 (Kd.V (Kd.int .i64) 3 wc w.heap.size (fun k_ => k_ ≠ gb101 ∧ k_ ≠ gb102) v107 t106) ∧ Aside0 (wc.heap[gb101]? = some (.cells #[.int .i64 a0_0, (.slice A0_1 l0_1.length c0_1)] 25 (0, 0))) ∧ Aside0 (wc.heap[gb102]? = some (.cells #[(.slice A1_0 l1_0.length c1_0), (.slice A1_1 l1_1.length c1_1), .string a1_2] 28 (0, 0))) ∧ Aside0 (Below w.heap.size w wc))
         case first =>
          have H := HC87.out
          clear HC87
          by_cases c88 : x126_78 = true
          ·subst c88
           rw [if_pos rfl] at H
           have H' := Aside0.mk H
           clear H
           go_wp2
           go_meet
           case rel => exact ⟨_, (6), zX, H', ⟨by have := HJ2.out; have := HJ30.out; have := HJ61.out; have := HJ78.out; first | omega | exact Nat.le_refl _⟩, ⟨zV HO_5.out⟩, ⟨zK BK101.out⟩, ⟨zK BK102.out⟩, ⟨zT⟩⟩
          replace c88 := Bool.eq_false_iff.mpr c88
          subst c88
          rw [if_neg Bool.false_ne_true] at H
          have H' := Aside0.mk H
          clear H
          go_wp2
          go_meet
          case rel => exact ⟨_, (t134), zX, H', ⟨by have := HJ2.out; have := HJ30.out; have := HJ61.out; have := HJ78.out; first | omega | exact Nat.le_refl _⟩, ⟨zV HO_5.out⟩, ⟨zK BK101.out⟩, ⟨zK BK102.out⟩, ⟨zT⟩⟩
         case rest =>
          clear HC87
          try clear c1; try clear c2; try clear p2; try clear c3; try clear c4; try clear c5; try clear c6; try clear c7; try clear c8; try clear c9; try clear c10; try clear c11; try clear c12; try clear c13; try clear c14; try clear c15; try clear c16; try clear c17; try clear c22; try clear c29; try clear c29b0; try clear c29b1; try clear c32; try clear c46; try clear c46b0; try clear c46b1; try clear c49; try clear c50; try clear c58; try clear c59; try clear c63; try clear c65; try clear c65b0; try clear c65b1; try clear c65b2; try clear c67; try clear c71; try clear c72; try clear c80; try clear c84; try clear c84b0; try clear c84b1; try clear c85; try clear c88; try clear hcz12_0; try clear hcz12_1; try clear hcz13_0; try clear hcz13_1; try clear hcz13_2; try clear hcz15_0; try clear hcz15_1; try clear hcz15_2; try clear hcz18_0; try clear hcz18_1; try clear hcz19_0; try clear hcz19_1; try clear hcz19_2; try clear hcz33_0; try clear hcz33_1; try clear hcz34_0; try clear hcz34_1; try clear hcz34_2; try clear hcz36_0; try clear hcz36_1; try clear hcz37_0; try clear hcz37_1; try clear hcz37_2; try clear hcz39_0; try clear hcz39_1; try clear hcz40_0; try clear hcz40_1; try clear hcz40_2; try clear hcz42_0; try clear hcz42_1; try clear hcz43_0; try clear hcz43_1; try clear hcz43_2; try clear hcz45_0; try clear hcz45_1; try clear hcz45_2; try clear hcz51_0; try clear hcz51_1; try clear hcz52_0; try clear hcz52_1; try clear hcz52_2; try clear hcz60_0; try clear hcz60_1; try clear hcz60_2; try clear hcz64_0; try clear hcz64_1; try clear hcz64_2; try clear hcz73_0; try clear hcz73_1; try clear hcz74_0; try clear hcz74_1; try clear hcz74_2; try clear hcz81_0; try clear hcz81_1; try clear hcz82_0; try clear hcz82_1; try clear hcz82_2; try clear hcz86_0; try clear hcz86_1; try clear hcz86_2; try clear hfz12_0; try clear hfz12_1; try clear hfz13_0; try clear hfz13_1; try clear hfz13_2; try clear hfz15_0; try clear hfz15_1; try clear hfz15_2; try clear hfz18_0; try clear hfz18_1; try clear hfz19_0; try clear hfz19_1; try clear hfz19_2; try clear hfz33_0; try clear hfz33_1; try clear hfz34_0; try clear hfz34_1; try clear hfz34_2; try clear hfz36_0; try clear hfz36_1; try clear hfz37_0; try clear hfz37_1; try clear hfz37_2; try clear hfz39_0; try clear hfz39_1; try clear hfz40_0; try clear hfz40_1; try clear hfz40_2; try clear hfz42_0; try clear hfz42_1; try clear hfz43_0; try clear hfz43_1; try clear hfz43_2; try clear hfz45_0; try clear hfz45_1; try clear hfz45_2; try clear hfz51_0; try clear hfz51_1; try clear hfz52_0; try clear hfz52_1; try clear hfz52_2; try clear hfz60_0; try clear hfz60_1; try clear hfz60_2; try clear hfz64_0; try clear hfz64_1; try clear hfz64_2; try clear hfz73_0; try clear hfz73_1; try clear hfz74_0; try clear hfz74_1; try clear hfz74_2; try clear hfz81_0; try clear hfz81_1; try clear hfz82_0; try clear hfz82_1; try clear hfz82_2; try clear hfz86_0; try clear hfz86_1; try clear hfz86_2; try clear p2
          obtain ⟨kq, x12_86, rfl, HA, HJ86, HO_5, BK101, BK102, HB⟩ := hcut
          cases kq with
          | zero => exact absurd HA.out (by simp [galoislaw15_FinitefieldQuotients.j4])
          | succ kj86 =>
           have H := HA.out
           clear HA
           simp only [galoislaw15_FinitefieldQuotients.j4] at H
           by_cases c89 : x12_86 = 0
           rotate_left
           ·rw [if_neg c89] at H
            obtain ⟨c89b0, c89b1⟩ := zU c89
            obtain ⟨t142, A99, H⟩ := zO H
            obtain rfl := Option.some.inj H
            obtain ⟨Ao100, co100, eo100⟩ := Kd.V_slice HO_5.out
            subst eo100
            go_wp2_with (first | ((with_reducible refine gate_callee (f := 12) rfl ?_); refine zG (some 132) Tryz.func12 #[.slice Ao100 t106.length co100, .int .i64 t109, .int .i64 x12_86, .slice none 0 0] ?_; (refine (galoislaw15_right.calls kj86 _ _ t106 t109 x12_86 _ _ ([] : List Int) t142 _ ?side1 ?side2 ?side3 ?side4 A99.out).mono ?_); (case side1 => exact zC ((Kd.V_reads' HO_5.out).2.2)); (case side2 => exact (Kd.V_reads' HO_5.out).2.1); (case side3 => exact Kd.C_nil _ _); (case side4 => exact Nat.le_refl _); rintro e w' ⟨rfl, ⟨nd, rfl⟩⟩; refine ⟨_, rfl, ?_⟩))
            go_ret
            exact ⟨zQ, zT⟩
           rw [if_pos c89] at H
           obtain ⟨c89b0, c89b1⟩ := zE c89; clear c89
           obtain ⟨t135, A90, H⟩ := zO H
           obtain ⟨t138, A91, H⟩ := zO H
           obtain ⟨t141, A92, H⟩ := zO H
           obtain rfl := Option.some.inj H
           try go_wp2
           replace HO_5 := Aside0.mk (Kd.V_drew HO_5.out)
           replace BK101 := Aside0.mk (blk_drew BK101.out)
           replace BK102 := Aside0.mk (blk_drew BK102.out)
           replace HB := Aside0.mk (below_drew1 HB.out)
           refine start_ (n := 12) (S := fun w' => w'.cell? ⟨gb101, 0, none⟩ = some (.int .i64 a0_0) ∧ w'.cell? ⟨gb101, 1, none⟩ = some (.slice A0_1 l0_1.length c0_1) ∧ w'.cell? ⟨gb102, 0, none⟩ = some (.slice A1_0 l1_0.length c1_0) ∧ w'.cell? ⟨gb102, 1, none⟩ = some (.slice A1_1 l1_1.length c1_1) ∧ w'.cell? ⟨gb102, 2, none⟩ = some (.string a1_2)) (ds := []) #[false, false, false, false, false, false, false, false, false, false, false, false] (by kernel_rfl) rfl rfl ⟨(blk_cell BK101.out 0).trans rfl, (blk_cell BK101.out 1).trans rfl, (blk_cell BK102.out 0).trans rfl, (blk_cell BK102.out 1).trans rfl, (blk_cell BK102.out 2).trans rfl⟩ (fun hHeld => ?_); refine with_tabW galoislaw15_FinitefieldQuotients.tab24 galoislaw15_FinitefieldQuotients.bits24 (fun HT_ HW_ => ?_)
           generalize wc.drew = w93 at HO_5 BK101 BK102 HB hHeld ⊢
           refine zP 0 133 ?_; refine zP 1 134 ?_; refine zP 3 136 ?_; refine zP 6 139 ?_
           refine take_ (i := 2) (N := some 135) (v := ?_) (a' := ?_) #[true, true, true, true, false, false, true, false, false, false, false, false] rfl rfl (take_ofW HT_.out HW_.out (by kernel_rfl)) (fun _ _ _ h => h) (Or.inl ⟨by rfl, ?_⟩) hHeld ?_ ?_
           rotate_left
           ·rintro w' ⟨s0, s1, s2, s3, s4⟩
            go_simp
            with_reducible rfl
           rotate_left
           ·simp only [Act.put, List.setIfInBounds_toArray, List.set_cons_zero, List.set_cons_succ, i64_w, i32_w]
            rfl
           refine take_ (i := 4) (N := some 137) (v := ?_) (a' := ?_) #[true, true, true, true, true, false, true, false, false, false, false, false] rfl rfl (take_ofW HT_.out HW_.out (by kernel_rfl)) (fun _ _ _ h => h) (Or.inl ⟨by rfl, ?_⟩) hHeld ?_ ?_
           rotate_left
           ·rintro w' ⟨s0, s1, s2, s3, s4⟩
            go_simp
            with_reducible rfl
           rotate_left
           ·simp only [Act.put, List.setIfInBounds_toArray, List.set_cons_zero, List.set_cons_succ, i64_w, i32_w]
            rfl
           refine take_ (i := 5) (N := some 138) (v := ?_) (a' := ?_) #[true, true, true, true, true, true, true, false, false, false, false, false] rfl rfl (take_ofW HT_.out HW_.out (by kernel_rfl)) (fun _ _ _ h => h) (Or.inl ⟨by rfl, ?_⟩) hHeld ?_ ?_
           rotate_left
           ·rintro w' ⟨s0, s1, s2, s3, s4⟩
            go_simp
            with_reducible rfl
           rotate_left
           ·simp only [Act.put, List.setIfInBounds_toArray, List.set_cons_zero, List.set_cons_succ, i64_w, i32_w]
            rfl
           refine take_ (i := 7) (N := some 140) (v := ?_) (a' := ?_) #[true, true, true, true, true, true, true, true, false, false, false, false] rfl rfl (take_ofW HT_.out HW_.out (by kernel_rfl)) (fun _ _ _ h => h) (Or.inl ⟨by rfl, ?_⟩) hHeld ?_ ?_
           rotate_left
           ·rintro w' ⟨s0, s1, s2, s3, s4⟩
            go_simp
            with_reducible rfl
           rotate_left
           ·simp only [Act.put, List.setIfInBounds_toArray, List.set_cons_zero, List.set_cons_succ, i64_w, i32_w]
            rfl
           refine one_ (i := 8) (N := some 141) #[true, true, true, true, true, true, true, true, true, false, false, false] rfl rfl (one_of HT_.out (by kernel_rfl)) (by decide) (fun K hK => ?_)
           refine goes_ Tryz.func15 (by kernel_rfl) rfl #[.agg #[.int .i64 a0_0, .slice A0_1 l0_1.length c0_1], .slice A1_1 l1_1.length c1_1] (by rfl) rfl rfl (by (try simp only [List.map_toArray, List.map_cons, List.map_nil]); first | done | rfl | (simp only [List.length_drop, List.length_take]; rfl)) ?_
           with_reducible refine (galoisref15_Inverse.calls kj86 a0_0 (fun k_ => k_ < w.heap.size) _ _ l0_1 _ _ l1_1 t135 _ ?side1 ?side2 ?side3 A90.out).mono ?_
           (case side1 => exact Kd.V_mk HC0_1.out (Kd.F_below (Kd.C_F (Kd.heap_int .i64) HR0_1.out) (zT)))
           (case side2 => exact zC (Kd.C_below HR1_1.out HB.out))
           (case side3 => exact HC1_1.out)
           rintro e w94 ⟨v136, rfl, ho0, hb⟩
           refine ⟨_, rfl, ?_⟩
           replace HO_5 := zVb HO_5 hb
           have HO137 := Aside0.mk (Kd.V_lower (Kd.V_mono (ok' := fun k_ => k_ ≠ gb101 ∧ k_ ≠ gb102) ho0 (fun k_ hk_ => ⟨Or.elim hk_ (fun hs_ => fun e_ => Nat.not_le.2 hs_ (by rw [e_]; exact GW101.out)) (fun hn_ => (Kd.freshB (zK BK101.out) k_ hn_)), Or.elim hk_ (fun hs_ => fun e_ => Nat.not_le.2 hs_ (by rw [e_]; exact GW102.out)) (fun hn_ => (Kd.freshB (zK BK102.out) k_ hn_))⟩)) (zS HB))
           replace BK101 := zKb BK101 hb
           replace BK102 := zKb BK102 hb
           replace HB := zBb HB hb
           (try clear hb)
           (try clear hb2)
           (try clear hk)
           (try clear hi)
           (try clear ho0)
           obtain ⟨Ao95, co95, eo95⟩ := Kd.V_slice HO137.out
           (first | subst eo95 | (injection eo95 with f1_ f2_ f3_; have f4_ := f1_.symm; have f5_ := f3_.symm; clear f1_ f2_ f3_; subst f4_; subst f5_))
           refine hK.out _ _ ⟨(blk_cell BK101.out 0).trans rfl, (blk_cell BK101.out 1).trans rfl, (blk_cell BK102.out 0).trans rfl, (blk_cell BK102.out 1).trans rfl, (blk_cell BK102.out 2).trans rfl⟩ (fun hHeld => ?_)
           clear hK K
           refine norm_ (a' := ?_) ?_ ?_
           rotate_left
           ·show Act.put _ (some 141) _ = _
            simp only [Act.put, List.setIfInBounds_toArray, List.set_cons_zero, List.set_cons_succ, i64_w, i32_w]
            rfl
           refine one_ (i := 9) (N := some 142) #[true, true, true, true, true, true, true, true, true, true, false, false] rfl rfl (one_of HT_.out (by kernel_rfl)) (by decide) (fun K hK => ?_)
           refine goes_ Tryz.func17 (by kernel_rfl) rfl #[.agg #[.int .i64 a0_0, .slice A0_1 l0_1.length c0_1], .slice A1_0 l1_0.length c1_0, .slice Ao95 t135.length co95] (by rfl) rfl rfl (by (try simp only [List.map_toArray, List.map_cons, List.map_nil]); first | done | rfl | (simp only [List.length_drop, List.length_take]; rfl)) ?_
           with_reducible refine (galoisref15_Mul.calls kj86 a0_0 _ _ l0_1 _ _ l1_0 _ _ t135 t138 _ ?side1 ?side2 ?side3 ?side4 ?side5 ?side6 A91.out).mono ?_
           (case side1 => exact zC (Kd.C_below HR0_1.out HB.out))
           (case side2 => exact HC0_1.out)
           (case side3 => exact zC (Kd.C_below HR1_0.out HB.out))
           (case side4 => exact HC1_0.out)
           (case side5 => exact zC ((Kd.V_reads' HO137.out).2.2))
           (case side6 => exact (Kd.V_reads' HO137.out).2.1)
           rintro e w96 ⟨v139, rfl, ho0, hb⟩
           refine ⟨_, rfl, ?_⟩
           replace HO_5 := zVb HO_5 hb
           replace HO137 := zVb HO137 hb
           have HO140 := Aside0.mk (Kd.V_lower (Kd.V_mono (ok' := fun k_ => k_ ≠ gb101 ∧ k_ ≠ gb102) ho0 (fun k_ hk_ => ⟨(Kd.freshB (zK BK101.out) k_ hk_), (Kd.freshB (zK BK102.out) k_ hk_)⟩)) (zS HB))
           replace BK101 := zKb BK101 hb
           replace BK102 := zKb BK102 hb
           replace HB := zBb HB hb
           (try clear hb)
           (try clear hb2)
           (try clear hk)
           (try clear hi)
           (try clear ho0)
           obtain ⟨Ao97, co97, eo97⟩ := Kd.V_slice HO_5.out
           (first | subst eo97 | (injection eo97 with f1_ f2_ f3_; have f4_ := f1_.symm; have f5_ := f3_.symm; clear f1_ f2_ f3_; subst f4_; subst f5_))
           obtain ⟨Ao98, co98, eo98⟩ := Kd.V_slice HO140.out
           (first | subst eo98 | (injection eo98 with f1_ f2_ f3_; have f4_ := f1_.symm; have f5_ := f3_.symm; clear f1_ f2_ f3_; subst f4_; subst f5_))
           refine hK.out _ _ ⟨(blk_cell BK101.out 0).trans rfl, (blk_cell BK101.out 1).trans rfl, (blk_cell BK102.out 0).trans rfl, (blk_cell BK102.out 1).trans rfl, (blk_cell BK102.out 2).trans rfl⟩ (fun hHeld => ?_)
           clear hK K
           refine norm_ (a' := ?_) ?_ ?_
           rotate_left
           ·show Act.put _ (some 142) _ = _
            simp only [Act.put, List.setIfInBounds_toArray, List.set_cons_zero, List.set_cons_succ, i64_w, i32_w]
            rfl
           refine one_ (i := 10) (N := some 143) #[true, true, true, true, true, true, true, true, true, true, true, false] rfl rfl (one_of HT_.out (by kernel_rfl)) (by decide) (fun K hK => ?_)
           refine goes_ Tryz.func12 (by kernel_rfl) rfl #[.slice Ao97 t106.length co97, .int .i64 t109, .int .i64 0, .slice Ao98 t138.length co98] (by rfl) rfl rfl (by (try simp only [List.map_toArray, List.map_cons, List.map_nil]); first | done | rfl | (simp only [List.length_drop, List.length_take]; rfl)) ?_
           with_reducible refine (galoislaw15_right.calls kj86 _ _ t106 t109 0 _ _ t138 t141 _ ?side1 ?side2 ?side3 ?side4 A92.out).mono ?_
           (case side1 => exact zC ((Kd.V_reads' HO_5.out).2.2))
           (case side2 => exact (Kd.V_reads' HO_5.out).2.1)
           (case side3 => exact zC ((Kd.V_reads' HO140.out).2.2))
           (case side4 => exact (Kd.V_reads' HO140.out).2.1)
           rintro e w' ⟨rfl, ⟨nd, rfl⟩⟩
           refine ⟨_, rfl, ?_⟩
           refine hK.out _ _ ⟨(blk_cell BK101.out 0).trans rfl, (blk_cell BK101.out 1).trans rfl, (blk_cell BK102.out 0).trans rfl, (blk_cell BK102.out 1).trans rfl, (blk_cell BK102.out 2).trans rfl⟩ (fun hHeld => ?_)
           clear hK K
           refine norm_ (a' := ?_) ?_ ?_
           rotate_left
           ·show Act.put _ (some 143) _ = _
            simp only [Act.put, List.setIfInBounds_toArray, List.set_cons_zero, List.set_cons_succ, i64_w, i32_w]
            rfl
           refine zP 11 4 ?_
           refine done_ (done_of HT_.out (by kernel_rfl)) ?_
           try go_wp2
           go_ret
           exact ⟨zQ, zT⟩
def galoislaw15_FinitefieldQuotients.Pure : Prop := ∀ (a0_0 : Int) (l0_1 : List Int) (l1_0 : List Int) (l1_1 : List Int) (a1_2 : ByteArray), (Lit.int .i64 a0_0).wf = true → l0_1.length ≤ maxLen → l0_1.length * 8 ≤ 140737488351232 → (∀ x ∈ l0_1, (Lit.int .i64 x).wf = true) → l1_0.length ≤ maxLen → l1_0.length * 8 ≤ 140737488351232 → (∀ x ∈ l1_0, (Lit.int .i64 x).wf = true) → l1_1.length ≤ maxLen → l1_1.length * 8 ≤ 140737488351232 → (∀ x ∈ l1_1, (Lit.int .i64 x).wf = true) → a1_2.size ≤ 140737488351232 → ∃ k, galoislaw15_FinitefieldQuotients.f k a0_0 l0_1 l1_0 l1_1 a1_2 = some true
theorem galoislaw15_FinitefieldQuotients.walk (P : galoislaw15_FinitefieldQuotients.Pure) (a0_0 : Int) (a0_1 : Option Addr) (len0_1 cap0_1 : Nat) (z0_1 : List Int) (a1_0 : Option Addr) (len1_0 cap1_0 : Nat) (z1_0 : List Int) (a1_1 : Option Addr) (len1_1 cap1_1 : Nat) (z1_1 : List Int) (a1_2 : ByteArray) (w : World) (w0_0 : (Lit.int .i64 a0_0).wf = true) (w0_1 : (a0_1 = none ∧ len0_1 = 0 ∧ cap0_1 = 0 ∧ z0_1 = []) ∨ ∃ x, a0_1 = some x ∧ len0_1 ≤ cap0_1 ∧ cap0_1 ≤ maxLen ∧ z0_1.length = cap0_1 ∧ (∀ i, i < z0_1.length → w.cell? (x.add i) = some (.int .i64 (z0_1.getD i 0))) ∧ ∀ n ∈ z0_1, (Lit.int .i64 n).wf = true) (y0_1 : len0_1 * 8 ≤ 140737488351232) (w1_0 : (a1_0 = none ∧ len1_0 = 0 ∧ cap1_0 = 0 ∧ z1_0 = []) ∨ ∃ x, a1_0 = some x ∧ len1_0 ≤ cap1_0 ∧ cap1_0 ≤ maxLen ∧ z1_0.length = cap1_0 ∧ (∀ i, i < z1_0.length → w.cell? (x.add i) = some (.int .i64 (z1_0.getD i 0))) ∧ ∀ n ∈ z1_0, (Lit.int .i64 n).wf = true) (y1_0 : len1_0 * 8 ≤ 140737488351232) (w1_1 : (a1_1 = none ∧ len1_1 = 0 ∧ cap1_1 = 0 ∧ z1_1 = []) ∨ ∃ x, a1_1 = some x ∧ len1_1 ≤ cap1_1 ∧ cap1_1 ≤ maxLen ∧ z1_1.length = cap1_1 ∧ (∀ i, i < z1_1.length → w.cell? (x.add i) = some (.int .i64 (z1_1.getD i 0))) ∧ ∀ n ∈ z1_1, (Lit.int .i64 n).wf = true) (y1_1 : len1_1 * 8 ≤ 140737488351232) (w1_2 : a1_2.size ≤ 140737488351232) :
  Calls Tryz.prog 3 #[.agg #[.int .i64 a0_0, .slice a0_1 len0_1 cap0_1], .agg #[.slice a1_0 len1_0 cap1_0, .slice a1_1 len1_1 cap1_1, .string a1_2]] w fun e w' => e = .returned (.bool true) ∧ Below w.heap.size w w' := by
 obtain ⟨l0_1, rfl, hr0_1, hm0_1, hw0_1, hc0_1⟩ := ReadsInt.ofRowC w0_1
 obtain ⟨l1_0, rfl, hr1_0, hm1_0, hw1_0, hc1_0⟩ := ReadsInt.ofRowC w1_0
 obtain ⟨l1_1, rfl, hr1_1, hm1_1, hw1_1, hc1_1⟩ := ReadsInt.ofRowC w1_1
 obtain ⟨k, h⟩ := P a0_0 l0_1 l1_0 l1_1 a1_2 w0_0 hm0_1 y0_1 hw0_1 hm1_0 y1_0 hw1_0 hm1_1 y1_1 hw1_1 w1_2
 refine (galoislaw15_FinitefieldQuotients.calls k a0_0 _ _ l0_1 _ _ l1_0 _ _ l1_1 a1_2 true w (Kd.C_of_reads (d := (0 : Int)) (h1 := fun _ => rfl) hr0_1) hc0_1 (Kd.C_of_reads (d := (0 : Int)) (h1 := fun _ => rfl) hr1_0) hc1_0 (Kd.C_of_reads (d := (0 : Int)) (h1 := fun _ => rfl) hr1_1) hc1_1 h).mono ?_
 rintro e w' ⟨rfl, hd⟩
 exact ⟨rfl, hd⟩
end Go.Proofs.YtalnaafmonmlmaaGreat.Q
end

/- Machine side and arithmetic of the law, put together by a program of the session. No conditions. -/
import Derived.RangeFuncNested
import Derived.Test.YtalnaafmonmlmaaKMinimal5
import Derived.Test.YtalnaafmonmlmaaKMinimal6
section
namespace Go.Proofs.Ytalnaafmonmlmaa.Q
open Go.RowKit Go.Proofs.YtalnaafmonmlmaaW.PrintWords Go.Proofs.YtalnaafmonmlmaaW.PrintLast Go.Proofs.YtalnaafmonmlmaaW.PrintMore
attribute [local go_sem] max2_int min2_int max_two min_two max_three min_three max_four min_four
set_option linter.unusedVariables false
set_option linter.unusedSimpArgs false
set_option maxHeartbeats 8000000
set_option maxRecDepth 100000
mutual
def fi_rootTail.l0 : Nat → Int → List Int → List Int → List Int → Int → List Int → Option (List Int)
 | 0, _, _, _, _, _, _ => none
 | k + 1, x8, x10, x11, x12, x103000, x103001 => (gf_IsOne.f x11).bind fun t112 => (if t112 = true then (some x10) else (fi_rootTail.l1 k x8 x10 x11 x12 0 x11 x103000 x103001))
def fi_rootTail.l1 : Nat → Int → List Int → List Int → List Int → Int → List Int → Int → List Int → Option (List Int)
 | 0, _, _, _, _, _, _, _, _ => none
 | k + 1, x8, x10, x11, x12, x13, x14, x103000, x103001 => (gf_IsOne.f x14).bind fun t113 => (if t113 = true then (if 0 ≤ (wrap64 ((wrap64 (x8 - x13)) - 1)) then ((gFPow.f k x103000 x103001 x12 (shl .i64 1 (wrap64 ((wrap64 (x8 - x13)) - 1)))).bind fun t117 => ((gFMul.f k x103000 x103001 t117 t117).bind fun t120 => ((gFMul.f k x103000 x103001 x10 t117).bind fun t123 => ((gFMul.f k x103000 x103001 x11 t120).bind fun t126 => (fi_rootTail.l0 k x13 t123 t126 t120 x103000 x103001))))) else (none)) else ((gFMul.f k x103000 x103001 x14 x14).bind fun t114 => (fi_rootTail.l1 k x8 x10 x11 x12 (wrap64 (x13 + 1)) t114 x103000 x103001)))
end
def fi_rootTail.f (k : Nat) (a0_0 : Int) (l0_1 : List Int) (l1 : List Int) (a2 : Int) (a3 : Int) (a4 : Int) (l5 : List Int) : Option (List Int) := (gFPow.f k a0_0 l0_1 l1 (wrap64 (Int.tdiv (wrap64 (a3 + 1)) 2))).bind fun t103 => ((gFPow.f k a0_0 l0_1 l1 a3).bind fun t106 => ((gFPow.f k a0_0 l0_1 l5 a3).bind fun t109 => (fi_rootTail.l0 k a4 t103 t106 t109 a0_0 l0_1)))
theorem fi_rootTail.mono_l : ∀ k, (∀ y0 y1 y2 y3 y4 y5, LeO (fi_rootTail.l0 k y0 y1 y2 y3 y4 y5) (fi_rootTail.l0 (k + 1) y0 y1 y2 y3 y4 y5)) ∧ (∀ y0 y1 y2 y3 y4 y5 y6 y7, LeO (fi_rootTail.l1 k y0 y1 y2 y3 y4 y5 y6 y7) (fi_rootTail.l1 (k + 1) y0 y1 y2 y3 y4 y5 y6 y7))
 | 0 => ⟨fun _ _ _ _ _ _ r h => by simp [fi_rootTail.l0] at h, fun _ _ _ _ _ _ _ _ r h => by simp [fi_rootTail.l1] at h⟩
 | k + 1 => by
  obtain ⟨ih0, ih1⟩ := fi_rootTail.mono_l k
  refine ⟨?_, ?_⟩
  ·intro y0 y1 y2 y3 y4 y5
   unfold fi_rootTail.l0
   with_reducible repeat' first | exact ih0 _ _ _ _ _ _ | exact ih1 _ _ _ _ _ _ _ _ | exact gFMul.mono _ _ _ _ _ | exact gFPow.mono _ _ _ _ _ | exact LeO.refl _ | exact LeO.none _ | refine LeO.ite ?_ ?_ | refine LeO.bind ?_ (fun _ => ?_)
  intro y0 y1 y2 y3 y4 y5 y6 y7
  unfold fi_rootTail.l1
  with_reducible repeat' first | exact ih0 _ _ _ _ _ _ | exact ih1 _ _ _ _ _ _ _ _ | exact gFMul.mono _ _ _ _ _ | exact gFPow.mono _ _ _ _ _ | exact LeO.refl _ | exact LeO.none _ | refine LeO.ite ?_ ?_ | refine LeO.bind ?_ (fun _ => ?_)
theorem fi_rootTail.mono : ∀ a0 a1 a2 a3 a4 a5 a6 k, LeO (fi_rootTail.f k a0 a1 a2 a3 a4 a5 a6) (fi_rootTail.f (k + 1) a0 a1 a2 a3 a4 a5 a6) := by
 intro a0 a1 a2 a3 a4 a5 a6 k
 obtain ⟨ih0, ih1⟩ := fi_rootTail.mono_l k
 unfold fi_rootTail.f
 with_reducible repeat' first | exact ih0 _ _ _ _ _ _ | exact ih1 _ _ _ _ _ _ _ _ | exact gFMul.mono _ _ _ _ _ | exact gFPow.mono _ _ _ _ _ | exact LeO.refl _ | exact LeO.none _ | refine LeO.ite ?_ ?_ | refine LeO.bind ?_ (fun _ => ?_)
def fi_rootTail.T9 : Bool × List (List Nat × List Nat) := (true, [([], []), ([], []), ([], []), ([2], [2]), ([3], [3]), ([0, 1, 4], [0, 1, 4]), ([], []), ([], []), ([], []), ([6, 7, 8, 5], [6, 7, 8]), ([], []), ([], []), ([], []), ([10, 11, 12, 9], [10, 11, 12]), ([5, 13, 0, 1, 2, 3, 4, 5], [5]), ([9, 14, 0, 1, 2, 3, 4, 5, 6, 7, 8, 9, 14], [9]), ([13, 15, 0, 1, 2, 3, 4, 5, 6, 7, 8, 9, 10, 11, 12, 13, 14, 15], [13])])
def fi_rootTail.B9 : List Nat := [0, 0, 0, 4, 12, 31, 0, 0, 0, 511, 0, 0, 0, 8191, 16383, 32767, 65535]
theorem fi_rootTail.tab9 : rtab .any (opsOf Try.f56 9) = fi_rootTail.T9 := by kernel_rfl
theorem fi_rootTail.bits9 : waitsOk fi_rootTail.T9.2 fi_rootTail.B9 = true := by kernel_rfl
def fi_rootTail.T16 : Bool × List (List Nat × List Nat) := (true, [([], []), ([], []), ([], []), ([], []), ([2, 3], [2, 3]), ([4], [4]), ([5], [5]), ([0, 1, 6], [0, 1, 6]), ([7, 7, 0, 1, 2, 3, 4, 5, 6, 7], [7])])
def fi_rootTail.B16 : List Nat := [0, 0, 0, 0, 12, 28, 60, 127, 255]
theorem fi_rootTail.tab16 : rtab .any (opsOf Try.f56 16) = fi_rootTail.T16 := by kernel_rfl
theorem fi_rootTail.bits16 : waitsOk fi_rootTail.T16.2 fi_rootTail.B16 = true := by kernel_rfl
def fi_rootTail.T18 : Bool × List (List Nat × List Nat) := (true, [([], []), ([], []), ([], []), ([0, 1, 2], [0, 1, 2]), ([], []), ([], []), ([], []), ([4, 5, 6, 3], [4, 5, 6]), ([3, 7, 0, 1, 2, 3], [1, 3]), ([7, 8, 0, 1, 2, 3, 4, 5, 6, 7, 8], [5, 7])])
def fi_rootTail.B18 : List Nat := [0, 0, 0, 7, 0, 0, 0, 127, 255, 511]
theorem fi_rootTail.tab18 : rtab .any (opsOf Try.f56 18) = fi_rootTail.T18 := by kernel_rfl
theorem fi_rootTail.bits18 : waitsOk fi_rootTail.T18.2 fi_rootTail.B18 = true := by kernel_rfl
def noPanic (Q : Exit → Act → World → Prop) : Exit → Act → World → Prop
 | .normal, a, w => Q .normal a w
 | .ret, a, w => Q .ret a w
 | _, _, _ => False
theorem noPanic_of {Q : Exit → Act → World → Prop} (e : Exit) (a : Act) (w : World) (h : noPanic Q e a w) : Q e a w := by cases e <;> first | exact h | exact h.elim
noncomputable def fi_rootTail.code : Code := match Try.f56.body with | some (.seq _ (.seq _ (.seq _ (.seq _ (.seq _ t))))) => t | _ => .skip
theorem fi_rootTail.walk (k : Nat) (a0_0 : Int) (A0_1 : Option Addr) (c0_1 : Nat) (l0_1 : List Int) (P1_ : Nat → Prop) (A1 : Option Addr) (c1 : Nat) (l1 : List Int) (a2 : Int) (a3 : Int) (a4 : Int) (P5_ : Nat → Prop) (A5 : Option Addr) (c5 : Nat) (l5 : List Int) (r : List Int) (w : World) (gb101 gb102 D : Nat) {u4 u5 u6 u10 u11 u12 u13 u14 u15 u16 u17 u18 u19 u20 u21 u22 u23 u24 u25 u26 u27 u28 u29 u30 u31 u32 u33 u34 u35 u36 u37 u38 u39 u40 u41 u42 u43 u44 u45 u46 u47 u48 u49 u50 u51 u52 u53 u54 u55 u56 u57 u58 u59 u60 u61 u62 u63 u64 u65 u66 u67 u68 u69 u70 u71 u72 u73 u74 u75 u76 u77 u78 u79 u80 u81 u82 u83 u84 u85 u86 u87 u88 u89 u90 u91 : Value} (R : Ending → World → Prop)
  (hr0_1 : Kd.C (Kd.int .i64) w A0_1 l0_1.length l0_1) (hc0_1 : l0_1.length ≤ c0_1) (ho1 : Kd.V (Kd.int .i64) 3 w w.heap.size (fun k_ => (((P1_ k_ ∨ P5_ k_) ∨ w.heap.size ≤ k_) ∧ k_ ≠ gb101) ∧ k_ ≠ gb102) (.slice A1 l1.length c1) l1) (ho5 : Kd.V (Kd.int .i64) 3 w w.heap.size (fun k_ => (((P1_ k_ ∨ P5_ k_) ∨ w.heap.size ≤ k_) ∧ k_ ≠ gb101) ∧ k_ ≠ gb102) (.slice A5 l5.length c5) l5)
  (bk101 : w.heap[gb101]? = some (.cells #[.slice A5 l5.length c5] 25 (0, 0))) (bk102 : w.heap[gb102]? = some (.cells #[.int .i64 a0_0, .slice A0_1 l0_1.length c0_1] 68 (0, 0))) (hne : gb101 ≠ gb102) (h : fi_rootTail.f k a0_0 l0_1 l1 a2 a3 a4 l5 = some r)
  (hD : w.heap[D]? = some (.deferred (some []))) (hQ : ∀ v W, Kd.V (Kd.int .i64) 3 W w.heap.size (fun k_ => ((P1_ k_ ∨ P5_ k_) ∨ w.heap.size ≤ k_) ∧ k_ ≠ gb101 ∧ k_ ≠ gb102) v r → Below w.heap.size w W → W.heap[D]? = some (.deferred (some [])) → R (.returned v) (W.putObj D (.deferred none))) :
  Code.wp Try.prog fi_rootTail.code (noPanic (bodyPostM Fence.wide 3 Try.prog Try.f56 R)) { tmps := #[.agg #[.int .i64 a0_0, .slice A0_1 l0_1.length c0_1], .slice A1 l1.length c1, .int .i64 a2, .pointer (some ⟨gb102, 0, none⟩), u4, u5, u6, .int .i64 a3, .int .i64 a4, .pointer (some ⟨gb101, 0, none⟩), u10, u11, u12, u13, u14, u15, u16, u17, u18, u19, u20, u21, u22, u23, u24, u25, u26, u27, u28, u29, u30, u31, u32, u33, u34, u35, u36, u37, u38, u39, u40, u41, u42, u43, u44, u45, u46, u47, u48, u49, u50, u51, u52, u53, u54, u55, u56, u57, u58, u59, u60, u61, u62, u63, u64, u65, u66, u67, u68, u69, u70, u71, u72, u73, u74, u75, u76, u77, u78, u79, u80, u81, u82, u83, u84, u85, u86, u87, u88, u89, u90, u91], defers := [{ target := .collected D, args := #[] }] } w := by
 have hu68 := Try.underlying68
 have HR0_1 := zm hr0_1
 have HC0_1 := zm hc0_1
 have HO1 := zm ho1
 have HO5 := zm ho5
 have BK101 := zm bk101
 have BK102 := zm bk102
 have NB101_102 := zm hne
 have NB102_101 := zm (Ne.symm hne)
 have HDD := zm hD
 have HQQ := zm hQ
 clear hr0_1 hc0_1 ho1 ho5 bk101 bk102 hne hD hQ
 have HB := zm (Below.refl w.heap.size w)
 have H : ((gFPow.f k a0_0 l0_1 l1 (wrap64 (Int.tdiv (wrap64 (a3 + 1)) 2))).bind fun t103 => ((gFPow.f k a0_0 l0_1 l1 a3).bind fun t106 => ((gFPow.f k a0_0 l0_1 l5 a3).bind fun t109 => (fi_rootTail.l0 k a4 t103 t106 t109 a0_0 l0_1)))) = some r := h
 clear h
 obtain ⟨t103, A7, H⟩ := zO H
 obtain ⟨t106, A8, H⟩ := zO H
 obtain ⟨t109, A9, H⟩ := zO H
 have H' := zm H
 clear H
 have hcode : fi_rootTail.code = fi_rootTail.code := rfl
 conv at hcode => rhs; unfold fi_rootTail.code Try.f56; dsimp only
 rw [hcode]
 clear hcode
 have hnb0 := NB102_101.out
 have hnc0 := NB101_102.out
 go_wp2
 replace HO1 := zm (Kd.V_drew HO1.out)
 replace HO5 := zm (Kd.V_drew HO5.out)
 replace BK101 := zm (blk_drew BK101.out)
 replace BK102 := zm (blk_drew BK102.out)
 replace HB := zm (below_drew1 HB.out)
 refine start_ (n := 17) (S := fun w' => w'.cell? ⟨gb102, 0, none⟩ = some (.int .i64 a0_0) ∧ w'.cell? ⟨gb102, 1, none⟩ = some (.slice A0_1 l0_1.length c0_1) ∧ w'.cell? ⟨gb101, 0, none⟩ = some (.slice A5 l5.length c5)) (ds := []) #[false, false, false, false, false, false, false, false, false, false, false, false, false, false, false, false, false] (by kernel_rfl) rfl rfl ⟨(blk_cell BK102.out 0).trans rfl, (blk_cell BK102.out 1).trans rfl, (blk_cell BK101.out 0).trans rfl⟩ (fun hHeld => ?_); refine with_tabW fi_rootTail.tab9 fi_rootTail.bits9 (fun HT_ HW_ => ?_)
 generalize w.drew = w12 at HO1 HO5 BK101 BK102 HB hHeld ⊢
 refine zP 1 44 ?_; refine zP 2 45 ?_; refine zP 3 46 ?_; refine zP 4 47 ?_; refine zP 7 50 ?_; refine zP 8 51 ?_; refine zP 12 55 ?_
 refine take_ (i := 0) (N := some 43) (v := ?_) (a' := ?_) #[true, true, true, true, true, false, false, true, true, false, false, false, true, false, false, false, false] rfl rfl (take_ofW HT_.out HW_.out (by kernel_rfl)) (fun _ _ _ h => h) (Or.inl ⟨by rfl, ?_⟩) hHeld ?_ ?_
 rotate_left
 ·rintro w' ⟨s0, s1, s2⟩
  go_simp
  with_reducible rfl
 rotate_left
 ·simp only [Act.put, List.setIfInBounds_toArray, List.set_cons_zero, List.set_cons_succ, i64_w, i32_w]
  rfl
 refine take_ (i := 6) (N := some 49) (v := ?_) (a' := ?_) #[true, true, true, true, true, false, true, true, true, false, false, false, true, false, false, false, false] rfl rfl (take_ofW HT_.out HW_.out (by kernel_rfl)) (fun _ _ _ h => h) (Or.inl ⟨by rfl, ?_⟩) hHeld ?_ ?_
 rotate_left
 ·rintro w' ⟨s0, s1, s2⟩
  go_simp
  with_reducible rfl
 rotate_left
 ·simp only [Act.put, List.setIfInBounds_toArray, List.set_cons_zero, List.set_cons_succ, i64_w, i32_w]
  rfl
 refine take_ (i := 10) (N := some 53) (v := ?_) (a' := ?_) #[true, true, true, true, true, false, true, true, true, false, true, false, true, false, false, false, false] rfl rfl (take_ofW HT_.out HW_.out (by kernel_rfl)) (fun _ _ _ h => h) (Or.inl ⟨by rfl, ?_⟩) hHeld ?_ ?_
 rotate_left
 ·rintro w' ⟨s0, s1, s2⟩
  go_simp
  with_reducible rfl
 rotate_left
 ·simp only [Act.put, List.setIfInBounds_toArray, List.set_cons_zero, List.set_cons_succ, i64_w, i32_w]
  rfl
 refine take_ (i := 11) (N := some 54) (v := ?_) (a' := ?_) #[true, true, true, true, true, false, true, true, true, false, true, true, true, false, false, false, false] rfl rfl (take_ofW HT_.out HW_.out (by kernel_rfl)) (fun _ _ _ h => h) (Or.inl ⟨by rfl, ?_⟩) hHeld ?_ ?_
 rotate_left
 ·rintro w' ⟨s0, s1, s2⟩
  go_simp
  with_reducible rfl
 rotate_left
 ·simp only [Act.put, List.setIfInBounds_toArray, List.set_cons_zero, List.set_cons_succ, i64_w, i32_w]
  rfl
 refine one_ (i := 5) (N := some 48) #[true, true, true, true, true, true, true, true, true, false, true, true, true, false, false, false, false] rfl rfl (one_of HT_.out (by kernel_rfl)) (by decide) (fun K hK => ?_)
 refine goes_ Try.func54 (by kernel_rfl) rfl #[.agg #[.int .i64 a0_0, .slice A0_1 l0_1.length c0_1], .slice A1 l1.length c1, .int .i64 (wrap64 (Int.tdiv (wrap64 (a3 + 1)) 2))] (by rfl) rfl rfl (by (try simp only [List.map_toArray, List.map_cons, List.map_nil]); first | done | rfl | (simp only [List.length_drop, List.length_take]; rfl)) ?_
 with_reducible refine (gFPow.calls k a0_0 _ _ l0_1 (fun k_ => ((((P1_ k_ ∨ P5_ k_) ∨ w.heap.size ≤ k_) ∧ k_ ≠ gb101) ∧ k_ ≠ gb102)) _ _ l1 (wrap64 (Int.tdiv (wrap64 (a3 + 1)) 2)) t103 _ ?side1 ?side2 ?side3 A7.out).mono ?_
 (case side1 => exact zC (Kd.C_below HR0_1.out HB.out))
 (case side2 => exact HC0_1.out)
 (case side3 => exact HO1.out)
 rintro e w13 ⟨v104, rfl, ho0, hb⟩
 refine ⟨_, rfl, ?_⟩
 replace HO1 := zVb HO1 hb
 replace HO5 := zVb HO5 hb
 have HO105 := zm (Kd.V_lower (Kd.V_mono (ok' := fun k_ => ((P1_ k_ ∨ P5_ k_) ∨ w.heap.size ≤ k_) ∧ k_ ≠ gb101 ∧ k_ ≠ gb102) ho0 (fun k_ hk_ => ⟨Or.elim hk_ (fun hs_ => hs_.1.1) (fun hn_ => (.inr (Nat.le_trans (zS HB) hn_))), Or.elim hk_ (fun hs_ => hs_.1.2) (fun hn_ => (Kd.freshB (zK BK101.out) k_ hn_)), Or.elim hk_ (fun hs_ => hs_.2) (fun hn_ => (Kd.freshB (zK BK102.out) k_ hn_))⟩)) (zS HB))
 replace BK101 := zKb BK101 hb
 replace BK102 := zKb BK102 hb
 replace HB := zBb HB hb
 (try clear hb)
 (try clear hb2)
 (try clear hk)
 (try clear hi)
 (try clear ho0)
 refine hK.out _ _ ⟨(blk_cell BK102.out 0).trans rfl, (blk_cell BK102.out 1).trans rfl, (blk_cell BK101.out 0).trans rfl⟩ (fun hHeld => ?_)
 clear hK K
 refine norm_ (a' := ?_) ?_ ?_
 rotate_left
 ·show Act.put _ (some 48) _ = _
  simp only [Act.put, List.setIfInBounds_toArray, List.set_cons_zero, List.set_cons_succ, i64_w, i32_w]
  rfl
 refine one_ (i := 9) (N := some 52) #[true, true, true, true, true, true, true, true, true, true, true, true, true, false, false, false, false] rfl rfl (one_of HT_.out (by kernel_rfl)) (by decide) (fun K hK => ?_)
 refine goes_ Try.func54 (by kernel_rfl) rfl #[.agg #[.int .i64 a0_0, .slice A0_1 l0_1.length c0_1], .slice A1 l1.length c1, .int .i64 a3] (by rfl) rfl rfl (by (try simp only [List.map_toArray, List.map_cons, List.map_nil]); first | done | rfl | (simp only [List.length_drop, List.length_take]; rfl)) ?_
 with_reducible refine (gFPow.calls k a0_0 _ _ l0_1 (fun k_ => ((((P1_ k_ ∨ P5_ k_) ∨ w.heap.size ≤ k_) ∧ k_ ≠ gb101) ∧ k_ ≠ gb102)) _ _ l1 a3 t106 _ ?side1 ?side2 ?side3 A8.out).mono ?_
 (case side1 => exact zC (Kd.C_below HR0_1.out HB.out))
 (case side2 => exact HC0_1.out)
 (case side3 => exact HO1.out)
 rintro e w14 ⟨v107, rfl, ho0, hb⟩
 refine ⟨_, rfl, ?_⟩
 replace HO1 := zVb HO1 hb
 replace HO5 := zVb HO5 hb
 replace HO105 := zVb HO105 hb
 have HO108 := zm (Kd.V_lower (Kd.V_mono (ok' := fun k_ => ((P1_ k_ ∨ P5_ k_) ∨ w.heap.size ≤ k_) ∧ k_ ≠ gb101 ∧ k_ ≠ gb102) ho0 (fun k_ hk_ => ⟨Or.elim hk_ (fun hs_ => hs_.1.1) (fun hn_ => (.inr (Nat.le_trans (zS HB) hn_))), Or.elim hk_ (fun hs_ => hs_.1.2) (fun hn_ => (Kd.freshB (zK BK101.out) k_ hn_)), Or.elim hk_ (fun hs_ => hs_.2) (fun hn_ => (Kd.freshB (zK BK102.out) k_ hn_))⟩)) (zS HB))
 replace BK101 := zKb BK101 hb
 replace BK102 := zKb BK102 hb
 replace HB := zBb HB hb
 (try clear hb)
 (try clear hb2)
 (try clear hk)
 (try clear hi)
 (try clear ho0)
 refine hK.out _ _ ⟨(blk_cell BK102.out 0).trans rfl, (blk_cell BK102.out 1).trans rfl, (blk_cell BK101.out 0).trans rfl⟩ (fun hHeld => ?_)
 clear hK K
 refine norm_ (a' := ?_) ?_ ?_
 rotate_left
 ·show Act.put _ (some 52) _ = _
  simp only [Act.put, List.setIfInBounds_toArray, List.set_cons_zero, List.set_cons_succ, i64_w, i32_w]
  rfl
 refine one_ (i := 13) (N := some 56) #[true, true, true, true, true, true, true, true, true, true, true, true, true, true, false, false, false] rfl rfl (one_of HT_.out (by kernel_rfl)) (by decide) (fun K hK => ?_)
 refine goes_ Try.func54 (by kernel_rfl) rfl #[.agg #[.int .i64 a0_0, .slice A0_1 l0_1.length c0_1], .slice A5 l5.length c5, .int .i64 a3] (by rfl) rfl rfl (by (try simp only [List.map_toArray, List.map_cons, List.map_nil]); first | done | rfl | (simp only [List.length_drop, List.length_take]; rfl)) ?_
 with_reducible refine (gFPow.calls k a0_0 _ _ l0_1 (fun k_ => ((((P1_ k_ ∨ P5_ k_) ∨ w.heap.size ≤ k_) ∧ k_ ≠ gb101) ∧ k_ ≠ gb102)) _ _ l5 a3 t109 _ ?side1 ?side2 ?side3 A9.out).mono ?_
 (case side1 => exact zC (Kd.C_below HR0_1.out HB.out))
 (case side2 => exact HC0_1.out)
 (case side3 => exact HO5.out)
 rintro e w15 ⟨v110, rfl, ho0, hb⟩
 refine ⟨_, rfl, ?_⟩
 replace HO1 := zVb HO1 hb
 replace HO5 := zVb HO5 hb
 replace HO105 := zVb HO105 hb
 replace HO108 := zVb HO108 hb
 have HO111 := zm (Kd.V_lower (Kd.V_mono (ok' := fun k_ => ((P1_ k_ ∨ P5_ k_) ∨ w.heap.size ≤ k_) ∧ k_ ≠ gb101 ∧ k_ ≠ gb102) ho0 (fun k_ hk_ => ⟨Or.elim hk_ (fun hs_ => hs_.1.1) (fun hn_ => (.inr (Nat.le_trans (zS HB) hn_))), Or.elim hk_ (fun hs_ => hs_.1.2) (fun hn_ => (Kd.freshB (zK BK101.out) k_ hn_)), Or.elim hk_ (fun hs_ => hs_.2) (fun hn_ => (Kd.freshB (zK BK102.out) k_ hn_))⟩)) (zS HB))
 replace BK101 := zKb BK101 hb
 replace BK102 := zKb BK102 hb
 replace HB := zBb HB hb
 (try clear hb)
 (try clear hb2)
 (try clear hk)
 (try clear hi)
 (try clear ho0)
 refine hK.out _ _ ⟨(blk_cell BK102.out 0).trans rfl, (blk_cell BK102.out 1).trans rfl, (blk_cell BK101.out 0).trans rfl⟩ (fun hHeld => ?_)
 clear hK K
 refine norm_ (a' := ?_) ?_ ?_
 rotate_left
 ·show Act.put _ (some 56) _ = _
  simp only [Act.put, List.setIfInBounds_toArray, List.set_cons_zero, List.set_cons_succ, i64_w, i32_w]
  rfl
 refine zP 14 10 ?_; refine zP 15 11 ?_; refine zP 16 12 ?_
 refine done_ (done_of HT_.out (by kernel_rfl)) ?_
 try go_wp2
 go_loopg [8, 10, 11, 12] k (fun kq v8 v10 v11 v12 w' => ∃ (x8_1 : Int) (x10_1 : List Int) (x11_1 : List Int) (x12_1 : List Int), v8 = .int .i64 x8_1 ∧ Aside0 (fi_rootTail.l0 kq x8_1 x10_1 x11_1 x12_1 a0_0 l0_1 = some r) ∧ Aside0 (kq ≤ k) ∧ Aside0 (Kd.V (Kd.int .i64) 3 w' w.heap.size (fun k_ => ((P1_ k_ ∨ P5_ k_) ∨ w.heap.size ≤ k_) ∧ k_ ≠ gb101 ∧ k_ ≠ gb102) v10 x10_1) ∧ Aside0 (Kd.V (Kd.int .i64) 3 w' w.heap.size (fun k_ => ((P1_ k_ ∨ P5_ k_) ∨ w.heap.size ≤ k_) ∧ k_ ≠ gb101 ∧ k_ ≠ gb102) v11 x11_1) ∧ Aside0 (Kd.V (Kd.int .i64) 3 w' w.heap.size (fun k_ => ((P1_ k_ ∨ P5_ k_) ∨ w.heap.size ≤ k_) ∧ k_ ≠ gb101 ∧ k_ ≠ gb102) v12 x12_1) ∧ Aside0 (Kd.V (Kd.int .i64) 3 w' w.heap.size (fun k_ => ((P1_ k_ ∨ P5_ k_) ∨ w.heap.size ≤ k_) ∧ k_ ≠ gb101 ∧ k_ ≠ gb102) (.slice A5 l5.length c5) l5) ∧ Aside0 (w'.heap[gb101]? = some (.cells #[(.slice A5 l5.length c5)] 25 (0, 0))) ∧ Aside0 (w'.heap[gb102]? = some (.cells #[.int .i64 a0_0, (.slice A0_1 l0_1.length c0_1)] 68 (0, 0))) ∧ Aside0 (Below w.heap.size w w'))
 case atStart => exact ⟨(a4), (t103), (t106), (t109), zX, H', ⟨Nat.le_refl _⟩, ⟨zV HO105.out⟩, ⟨zV HO108.out⟩, ⟨zV HO111.out⟩, ⟨zV (Kd.V_mono HO5.out (fun _ hk => ⟨hk.1.1, ⟨hk.1.2, hk.2⟩⟩))⟩, ⟨zK BK101.out⟩, ⟨zK BK102.out⟩, ⟨zT⟩⟩
 case round =>
  clear H'
  obtain ⟨x8_1, x10_1, x11_1, x12_1, rfl, HA, HK1, HO_10, HO_11, HO_12, HO_102000, BK101, BK102, HB⟩ := hrel
  cases gk with
  | zero => exact absurd HA.out (by simp [fi_rootTail.l0])
  | succ k1 =>
   have H := HA.out
   clear HA
   simp only [fi_rootTail.l0] at H
   obtain ⟨t112, A16, H⟩ := zO H
   by_cases c17 : t112 = true
   ·subst c17
    rw [if_pos rfl] at H
    obtain rfl := Option.some.inj H
    obtain ⟨Ao18, co18, eo18⟩ := Kd.V_slice HO_11.out
    subst eo18
    go_wp2_with (first | ((with_reducible refine gate_callee (f := 55) rfl ?_); refine zG (some 58) Try.func55 #[.slice Ao18 x11_1.length co18] ?_; (with_reducible refine (gf_IsOne.calls _ _ x11_1 true _ (zC ((Kd.V_reads' HO_11.out).2.2)) ((Kd.V_reads' HO_11.out).2.1) A16.out).mono ?_); rintro e w' ⟨rfl, ⟨nd, rfl⟩⟩; refine ⟨_, rfl, ?_⟩))
    simp only [noPanic, bodyPostM, LeavesInM]
    have hv_ := (show Kd.V (Kd.int .i64) 3 _ w.heap.size (fun k_ => ((P1_ k_ ∨ P5_ k_) ∨ w.heap.size ≤ k_) ∧ k_ ≠ gb101 ∧ k_ ≠ gb102) _ x10_1 from Kd.V_mono HO_10.out (fun _ hk => by first | exact ⟨hk.1, hk.2⟩ | exact ⟨hk.1.1, hk.1.2, hk.2⟩))
    have hdd_ := (HB.out.block D (Array.getElem?_eq_some_iff.1 HDD.out).1).trans HDD.out
    refine ⟨by simp, .inl ⟨_, _, rfl, run_takeDeferred (by simpa using hdd_), ?_⟩⟩
    simp only [LeavesIn]
    exact ⟨_, results_tmp rfl _ _ _, HQQ.out _ _ (zV hv_) (zT) (by simpa using hdd_)⟩
   replace c17 := Bool.eq_false_iff.mpr c17
   subst c17
   rw [if_neg Bool.false_ne_true] at H
   have H' := zm H
   clear H
   obtain ⟨Ao19, co19, eo19⟩ := Kd.V_slice HO_11.out
   subst eo19
   go_wp2_with (first | ((with_reducible refine gate_callee (f := 55) rfl ?_); refine zG (some 58) Try.func55 #[.slice Ao19 x11_1.length co19] ?_; (with_reducible refine (gf_IsOne.calls _ _ x11_1 false _ (zC ((Kd.V_reads' HO_11.out).2.2)) ((Kd.V_reads' HO_11.out).2.1) A16.out).mono ?_); rintro e w' ⟨rfl, ⟨nd, rfl⟩⟩; refine ⟨_, rfl, ?_⟩))
   go_loopg [13, 14] k1 (fun kq v13 v14 w' => ∃ (x13_2 : Int) (x14_2 : List Int), v13 = .int .i64 x13_2 ∧ Aside0 (fi_rootTail.l1 kq x8_1 x10_1 x11_1 x12_1 x13_2 x14_2 a0_0 l0_1 = some r) ∧ Aside0 (kq ≤ k1) ∧ Aside0 (Kd.V (Kd.int .i64) 3 w' w.heap.size (fun k_ => ((P1_ k_ ∨ P5_ k_) ∨ w.heap.size ≤ k_) ∧ k_ ≠ gb101 ∧ k_ ≠ gb102) u10 x10_1) ∧ Aside0 (Kd.V (Kd.int .i64) 3 w' w.heap.size (fun k_ => ((P1_ k_ ∨ P5_ k_) ∨ w.heap.size ≤ k_) ∧ k_ ≠ gb101 ∧ k_ ≠ gb102) (.slice Ao19 x11_1.length co19) x11_1) ∧ Aside0 (Kd.V (Kd.int .i64) 3 w' w.heap.size (fun k_ => ((P1_ k_ ∨ P5_ k_) ∨ w.heap.size ≤ k_) ∧ k_ ≠ gb101 ∧ k_ ≠ gb102) u12 x12_1) ∧ Aside0 (Kd.V (Kd.int .i64) 3 w' w.heap.size (fun k_ => ((P1_ k_ ∨ P5_ k_) ∨ w.heap.size ≤ k_) ∧ k_ ≠ gb101 ∧ k_ ≠ gb102) v14 x14_2) ∧ Aside0 (Kd.V (Kd.int .i64) 3 w' w.heap.size (fun k_ => ((P1_ k_ ∨ P5_ k_) ∨ w.heap.size ≤ k_) ∧ k_ ≠ gb101 ∧ k_ ≠ gb102) (.slice A5 l5.length c5) l5) ∧ Aside0 (w'.heap[gb101]? = some (.cells #[(.slice A5 l5.length c5)] 25 (0, 0))) ∧ Aside0 (w'.heap[gb102]? = some (.cells #[.int .i64 a0_0, (.slice A0_1 l0_1.length c0_1)] 68 (0, 0))) ∧ Aside0 (Below w.heap.size w w'))
   case atStart => exact ⟨(0), (x11_1), zX, H', ⟨Nat.le_refl _⟩, ⟨zV HO_10.out⟩, ⟨zV HO_11.out⟩, ⟨zV HO_12.out⟩, ⟨zV HO_11.out⟩, ⟨zV HO_102000.out⟩, ⟨zK BK101.out⟩, ⟨zK BK102.out⟩, ⟨zT⟩⟩
   case round =>
    clear H'
    obtain ⟨x13_2, x14_2, rfl, HA, HK2, HO_10, HO_11, HO_12, HO_14, HO_102000, BK101, BK102, HB⟩ := hrel
    cases gk with
    | zero => exact absurd HA.out (by simp [fi_rootTail.l1])
    | succ k2 =>
     have H := HA.out
     clear HA
     simp only [fi_rootTail.l1] at H
     obtain ⟨t113, A20, H⟩ := zO H
     by_cases c21 : t113 = true
     rotate_left
     ·replace c21 := Bool.eq_false_iff.mpr c21
      subst c21
      rw [if_neg Bool.false_ne_true] at H
      obtain ⟨t114, A42, H⟩ := zO H
      have H' := zm H
      clear H
      obtain ⟨Ao43, co43, eo43⟩ := Kd.V_slice HO_14.out
      subst eo43
      go_wp2_with (first | ((with_reducible refine gate_callee (f := 55) rfl ?_); refine zG (some 62) Try.func55 #[.slice Ao43 x14_2.length co43] ?_; (with_reducible refine (gf_IsOne.calls _ _ x14_2 false _ (zC ((Kd.V_reads' HO_14.out).2.2)) ((Kd.V_reads' HO_14.out).2.1) A20.out).mono ?_); rintro e w' ⟨rfl, ⟨nd, rfl⟩⟩; refine ⟨_, rfl, ?_⟩; have hnb44 := NB102_101.out; have hnc44 := NB101_102.out; obtain ⟨hcz45_0, hcz45_1, hfz45_0, hfz45_1⟩ := zf2 BK102) | ((with_reducible refine gate_callee (f := 59) rfl ?_); refine zG (some 67) Try.func59 #[.agg #[.int .i64 a0_0, .slice A0_1 l0_1.length c0_1], .slice Ao43 x14_2.length co43, .slice Ao43 x14_2.length co43] ?_; (with_reducible refine (gFMul.calls k2 a0_0 _ _ l0_1 _ _ x14_2 _ _ x14_2 t114 _ ?side1 ?side2 ?side3 ?side4 ?side5 ?side6 A42.out).mono ?_); (case side1 => exact zC ((Kd.C_below HR0_1.out (zT)))); (case side2 => exact HC0_1.out); (case side3 => exact zC ((Kd.V_reads' HO_14.out).2.2)); (case side4 => exact (Kd.V_reads' HO_14.out).2.1); (case side5 => exact zC ((Kd.V_reads' HO_14.out).2.2)); (case side6 => exact (Kd.V_reads' HO_14.out).2.1); rintro e w46 ⟨v115, rfl, ho0, hb⟩; refine ⟨_, rfl, ?_⟩; replace HO_10 := zVb HO_10 hb; replace HO_11 := zVb HO_11 hb; replace HO_12 := zVb HO_12 hb; replace HO_14 := zVb HO_14 hb; replace HO_102000 := zVb HO_102000 hb; have HO116 := zWV (fun k_ => ((P1_ k_ ∨ P5_ k_) ∨ w.heap.size ≤ k_) ∧ k_ ≠ gb101 ∧ k_ ≠ gb102) ho0 HB (fun k_ hk_ => ⟨(.inr (Nat.le_trans (zS HB) hk_)), (Kd.freshB (zK BK101.out) k_ hk_), (Kd.freshB (zK BK102.out) k_ hk_)⟩); replace BK101 := zKb BK101 hb; replace BK102 := zKb BK102 hb; replace HB := zBb HB hb))
      go_roundg k2
      case measure => have := HK1.out; have := HK2.out; omega
      case rel => exact ⟨(wrap64 (x13_2 + 1)), (t114), zX, H', ⟨by have := HK1.out; have := HK2.out; omega⟩, ⟨zV HO_10.out⟩, ⟨zV HO_11.out⟩, ⟨zV HO_12.out⟩, ⟨zV HO116.out⟩, ⟨zV HO_102000.out⟩, ⟨zK BK101.out⟩, ⟨zK BK102.out⟩, ⟨zT⟩⟩
     subst c21
     rw [if_pos rfl] at H
     obtain ⟨ji22, hji22⟩ : ∃ j_ : Int, (wrap64 ((wrap64 (x8_1 - x13_2)) - 1)) = j_ := ⟨_, rfl⟩
     first | rw [hji22] at H | simp only [hji22] at H
     (try rw [hji22] at A20)
     have hji22w : (IntKind.i64.wrap ((wrap64 (x8_1 - x13_2)) - 1)) = ji22 := (i64_w _).trans hji22
     by_cases c23 : 0 ≤ (ji22)
     rotate_left
     ·rw [if_neg c23] at H
      exact absurd H (by simp)
     rw [if_pos c23] at H
     have c23b0 := eq_true c23; have c23b1 := decide_eq_true c23; clear c23
     obtain ⟨ji24, hji24⟩ : ∃ j_ : Int, (shl .i64 1 (ji22)) = j_ := ⟨_, rfl⟩
     first | rw [hji24] at H | simp only [hji24] at H
     (try rw [hji24] at A20)
     have hji24_ : (IntKind.i64.wrap (1 * 2 ^ min (ji22).toNat 64)) = ji24 := hji24
     have hji24z : (ji22) ≤ 64 → (IntKind.i64.wrap (1 * 2 ^ (ji22).toNat)) = ji24 := shl_small hji24
     have hji24u : (IntKind.i64.wrap (2 ^ min (ji22).toNat 64)) = ji24 := by have h_ := hji24_; rw [Int.one_mul] at h_; exact h_
     have hji24v : (ji22) ≤ 64 → (IntKind.i64.wrap (2 ^ (ji22).toNat)) = ji24 := fun hle_ => by have h_ := hji24z hle_; rw [Int.one_mul] at h_; exact h_
     have hji24y : (wrap64 (1 * 2 ^ min (ji22).toNat 64)) = ji24 := (i64_w _).symm.trans hji24_
     have hji24x : (ji22) ≤ 64 → (wrap64 (1 * 2 ^ (ji22).toNat)) = ji24 := fun h_ => (i64_w _).symm.trans (hji24z h_)
     obtain ⟨t117, A25, H⟩ := zO H
     obtain ⟨t120, A26, H⟩ := zO H
     obtain ⟨t123, A27, H⟩ := zO H
     obtain ⟨t126, A28, H⟩ := zO H
     have H' := zm H
     clear H
     obtain ⟨Ao29, co29, eo29⟩ := Kd.V_slice HO_14.out
     subst eo29
     try go_wp2_with (first | ((with_reducible refine gate_callee (f := 55) rfl ?_); refine zG (some 62) Try.func55 #[.slice Ao29 x14_2.length co29] ?_; (with_reducible refine (gf_IsOne.calls _ _ x14_2 true _ (zC ((Kd.V_reads' HO_14.out).2.2)) ((Kd.V_reads' HO_14.out).2.1) A20.out).mono ?_); rintro e w' ⟨rfl, ⟨nd, rfl⟩⟩; refine ⟨_, rfl, ?_⟩))
     (try (rw [drewN_self wr]; generalize hq_ : World.drewN wr _ = wr; have n0_ : Aside0 (Kd.V (Kd.int .i64) 3 wr w.heap.size (fun k_ => ((P1_ k_ ∨ P5_ k_) ∨ w.heap.size ≤ k_) ∧ k_ ≠ gb101 ∧ k_ ≠ gb102) u10 x10_1) := ⟨by rw [← hq_]; exact (zV HO_10.out)⟩; have n1_ : Aside0 (Kd.V (Kd.int .i64) 3 wr w.heap.size (fun k_ => ((P1_ k_ ∨ P5_ k_) ∨ w.heap.size ≤ k_) ∧ k_ ≠ gb101 ∧ k_ ≠ gb102) (.slice A5 l5.length c5) l5) := ⟨by rw [← hq_]; exact (zV HO_102000.out)⟩; have n2_ : Aside0 (Kd.V (Kd.int .i64) 3 wr w.heap.size (fun k_ => ((P1_ k_ ∨ P5_ k_) ∨ w.heap.size ≤ k_) ∧ k_ ≠ gb101 ∧ k_ ≠ gb102) (.slice Ao19 x11_1.length co19) x11_1) := ⟨by rw [← hq_]; exact (zV HO_11.out)⟩; have n3_ : Aside0 (Kd.V (Kd.int .i64) 3 wr w.heap.size (fun k_ => ((P1_ k_ ∨ P5_ k_) ∨ w.heap.size ≤ k_) ∧ k_ ≠ gb101 ∧ k_ ≠ gb102) u12 x12_1) := ⟨by rw [← hq_]; exact (zV HO_12.out)⟩; have n4_ : Aside0 (Kd.V (Kd.int .i64) 3 wr w.heap.size (fun k_ => ((P1_ k_ ∨ P5_ k_) ∨ w.heap.size ≤ k_) ∧ k_ ≠ gb101 ∧ k_ ≠ gb102) (.slice Ao29 x14_2.length co29) x14_2) := ⟨by rw [← hq_]; exact (zV HO_14.out)⟩; have n5_ : Aside0 (wr.heap[gb101]? = some (.cells #[.slice A5 l5.length c5] 25 (0, 0))) := ⟨by rw [← hq_]; exact (zK BK101.out)⟩; have n6_ : Aside0 (wr.heap[gb102]? = some (.cells #[.int .i64 a0_0, .slice A0_1 l0_1.length c0_1] 68 (0, 0))) := ⟨by rw [← hq_]; exact (zK BK102.out)⟩; have n7_ : Aside0 (Below w.heap.size w wr) := ⟨by rw [← hq_]; exact (zT)⟩; clear HO_10 HO_102000 HO_11 HO_12 HO_14 BK101 BK102 HB hq_; have HO_10 := n0_; have HO_102000 := n1_; have HO_11 := n2_; have HO_12 := n3_; have HO_14 := n4_; have BK101 := n5_; have BK102 := n6_; have HB := n7_; clear n0_ n1_ n2_ n3_ n4_ n5_ n6_ n7_))
     replace HO_10 := zm (Kd.V_drew HO_10.out)
     replace HO_11 := zm (Kd.V_drew HO_11.out)
     replace HO_12 := zm (Kd.V_drew HO_12.out)
     replace HO_14 := zm (Kd.V_drew HO_14.out)
     replace HO_102000 := zm (Kd.V_drew HO_102000.out)
     replace BK101 := zm (blk_drew BK101.out)
     replace BK102 := zm (blk_drew BK102.out)
     replace HB := zm (below_drew1 HB.out)
     obtain ⟨Ao31, co31, eo31⟩ := Kd.V_slice HO_12.out
     (first | subst eo31 | (injection eo31 with f1_ f2_ f3_; have f4_ := f1_.symm; have f5_ := f3_.symm; clear f1_ f2_ f3_; subst f4_; subst f5_))
     refine start_ (n := 9) (S := fun w' => w'.cell? ⟨gb102, 0, none⟩ = some (.int .i64 a0_0) ∧ w'.cell? ⟨gb102, 1, none⟩ = some (.slice A0_1 l0_1.length c0_1)) (ds := []) #[false, false, false, false, false, false, false, false, false] (by kernel_rfl) rfl rfl ⟨(blk_cell BK102.out 0).trans rfl, (blk_cell BK102.out 1).trans rfl⟩ (fun hHeld => ?_); refine with_tabW fi_rootTail.tab16 fi_rootTail.bits16 (fun HT_ HW_ => ?_)
     generalize wr.drew = w30 at HO_10 HO_11 HO_12 HO_14 HO_102000 BK101 BK102 HB hHeld ⊢
     refine zP 1 71 ?_; refine zP 2 72 ?_; refine zP 3 73 ?_; refine zP 4 74 ?_; refine zP 5 75 ?_; refine zP 6 76 ?_
     refine take_ (i := 0) (N := some 70) (v := ?_) (a' := ?_) #[true, true, true, true, true, true, true, false, false] rfl rfl (take_ofW HT_.out HW_.out (by kernel_rfl)) (fun _ _ _ h => h) (Or.inl ⟨by rfl, ?_⟩) hHeld ?_ ?_
     rotate_left
     ·rintro w' ⟨s0, s1⟩
      go_simp
      with_reducible rfl
     rotate_left
     ·simp only [Act.put, List.setIfInBounds_toArray, List.set_cons_zero, List.set_cons_succ, i64_w, i32_w]
      rfl
     refine one_ (i := 7) (N := some 77) #[true, true, true, true, true, true, true, true, false] rfl rfl (one_of HT_.out (by kernel_rfl)) (by decide) (fun K hK => ?_)
     refine goes_ Try.func54 (by kernel_rfl) rfl #[.agg #[.int .i64 a0_0, .slice A0_1 l0_1.length c0_1], .slice Ao31 x12_1.length co31, .int .i64 ji24] (by rfl) rfl rfl (by (try simp only [List.map_toArray, List.map_cons, List.map_nil]); first | done | (simp only [hji24]; rfl) | rfl | (simp only [List.length_drop, List.length_take]; rfl)) ?_
     with_reducible refine (gFPow.calls k2 a0_0 _ _ l0_1 (fun k_ => (((P1_ k_ ∨ P5_ k_) ∨ w.heap.size ≤ k_) ∧ (k_ ≠ gb101 ∧ k_ ≠ gb102))) _ _ x12_1 ji24 t117 _ ?side1 ?side2 ?side3 A25.out).mono ?_
     (case side1 => exact zC (Kd.C_below HR0_1.out HB.out))
     (case side2 => exact HC0_1.out)
     (case side3 => exact HO_12.out)
     rintro e w32 ⟨v118, rfl, ho0, hb⟩
     refine ⟨_, rfl, ?_⟩
     replace HO_10 := zVb HO_10 hb
     replace HO_11 := zVb HO_11 hb
     replace HO_12 := zVb HO_12 hb
     replace HO_14 := zVb HO_14 hb
     replace HO_102000 := zVb HO_102000 hb
     have HO119 := zm (Kd.V_lower (Kd.V_mono (ok' := fun k_ => ((P1_ k_ ∨ P5_ k_) ∨ w.heap.size ≤ k_) ∧ k_ ≠ gb101 ∧ k_ ≠ gb102) ho0 (fun k_ hk_ => ⟨Or.elim hk_ (fun hs_ => hs_.1) (fun hn_ => (.inr (Nat.le_trans (zS HB) hn_))), Or.elim hk_ (fun hs_ => hs_.2.1) (fun hn_ => (Kd.freshB (zK BK101.out) k_ hn_)), Or.elim hk_ (fun hs_ => hs_.2.2) (fun hn_ => (Kd.freshB (zK BK102.out) k_ hn_))⟩)) (zS HB))
     replace BK101 := zKb BK101 hb
     replace BK102 := zKb BK102 hb
     replace HB := zBb HB hb
     (try clear hb)
     (try clear hb2)
     (try clear hk)
     (try clear hi)
     (try clear ho0)
     refine hK.out _ _ ⟨(blk_cell BK102.out 0).trans rfl, (blk_cell BK102.out 1).trans rfl⟩ (fun hHeld => ?_)
     clear hK K
     refine norm_ (a' := ?_) ?_ ?_
     rotate_left
     ·show Act.put _ (some 77) _ = _
      simp only [Act.put, List.setIfInBounds_toArray, List.set_cons_zero, List.set_cons_succ, i64_w, i32_w]
      rfl
     refine zP 8 15 ?_
     refine done_ (done_of HT_.out (by kernel_rfl)) ?_
     have hnb33 := NB102_101.out
     have hnc33 := NB101_102.out
     obtain ⟨hcz34_0, hcz34_1, hfz34_0, hfz34_1⟩ := zf2 BK102
     obtain ⟨Ao35, co35, eo35⟩ := Kd.V_slice HO119.out
     subst eo35
     try go_wp2_with (first | ((with_reducible refine gate_callee (f := 59) rfl ?_); refine zG (some 82) Try.func59 #[.agg #[.int .i64 a0_0, .slice A0_1 l0_1.length c0_1], .slice Ao35 t117.length co35, .slice Ao35 t117.length co35] ?_; (with_reducible refine (gFMul.calls k2 a0_0 _ _ l0_1 _ _ t117 _ _ t117 t120 _ (zC (Kd.C_below HR0_1.out HB.out)) HC0_1.out (zC ((Kd.V_reads' HO119.out).2.2)) ((Kd.V_reads' HO119.out).2.1) (zC ((Kd.V_reads' HO119.out).2.2)) ((Kd.V_reads' HO119.out).2.1) A26.out).mono ?_); rintro e w36 ⟨v121, rfl, ho0, hb⟩; refine ⟨_, rfl, ?_⟩; replace HO_10 := zVb HO_10 hb; replace HO_11 := zVb HO_11 hb; replace HO_12 := zVb HO_12 hb; replace HO_14 := zVb HO_14 hb; replace HO_102000 := zVb HO_102000 hb; replace HO119 := zVb HO119 hb; have HO122 := zWV (fun k_ => ((P1_ k_ ∨ P5_ k_) ∨ w.heap.size ≤ k_) ∧ k_ ≠ gb101 ∧ k_ ≠ gb102) ho0 HB (fun k_ hk_ => ⟨(.inr (Nat.le_trans (zS HB) hk_)), (Kd.freshB (zK BK101.out) k_ hk_), (Kd.freshB (zK BK102.out) k_ hk_)⟩); replace BK101 := zKb BK101 hb; replace BK102 := zKb BK102 hb; replace HB := zBb HB hb))
     replace HO_10 := zm (Kd.V_drew HO_10.out)
     replace HO_11 := zm (Kd.V_drew HO_11.out)
     replace HO_12 := zm (Kd.V_drew HO_12.out)
     replace HO_14 := zm (Kd.V_drew HO_14.out)
     replace HO_102000 := zm (Kd.V_drew HO_102000.out)
     replace HO119 := zm (Kd.V_drew HO119.out)
     replace HO122 := zm (Kd.V_drew HO122.out)
     replace BK101 := zm (blk_drew BK101.out)
     replace BK102 := zm (blk_drew BK102.out)
     replace HB := zm (below_drew1 HB.out)
     obtain ⟨Ao38, co38, eo38⟩ := Kd.V_slice HO_10.out
     (first | subst eo38 | (injection eo38 with f1_ f2_ f3_; have f4_ := f1_.symm; have f5_ := f3_.symm; clear f1_ f2_ f3_; subst f4_; subst f5_))
     refine start_ (n := 10) (S := fun w' => w'.cell? ⟨gb102, 0, none⟩ = some (.int .i64 a0_0) ∧ w'.cell? ⟨gb102, 1, none⟩ = some (.slice A0_1 l0_1.length c0_1)) (ds := []) #[false, false, false, false, false, false, false, false, false, false] (by kernel_rfl) rfl rfl ⟨(blk_cell BK102.out 0).trans rfl, (blk_cell BK102.out 1).trans rfl⟩ (fun hHeld => ?_); refine with_tabW fi_rootTail.tab18 fi_rootTail.bits18 (fun HT_ HW_ => ?_)
     generalize w36.drew = w37 at HO_10 HO_11 HO_12 HO_14 HO_102000 HO119 HO122 BK101 BK102 HB hHeld ⊢
     refine zP 1 84 ?_; refine zP 2 85 ?_; refine zP 5 88 ?_; refine zP 6 89 ?_
     refine take_ (i := 0) (N := some 83) (v := ?_) (a' := ?_) #[true, true, true, false, false, true, true, false, false, false] rfl rfl (take_ofW HT_.out HW_.out (by kernel_rfl)) (fun _ _ _ h => h) (Or.inl ⟨by rfl, ?_⟩) hHeld ?_ ?_
     rotate_left
     ·rintro w' ⟨s0, s1⟩
      go_simp
      with_reducible rfl
     rotate_left
     ·simp only [Act.put, List.setIfInBounds_toArray, List.set_cons_zero, List.set_cons_succ, i64_w, i32_w]
      rfl
     refine take_ (i := 4) (N := some 87) (v := ?_) (a' := ?_) #[true, true, true, false, true, true, true, false, false, false] rfl rfl (take_ofW HT_.out HW_.out (by kernel_rfl)) (fun _ _ _ h => h) (Or.inl ⟨by rfl, ?_⟩) hHeld ?_ ?_
     rotate_left
     ·rintro w' ⟨s0, s1⟩
      go_simp
      with_reducible rfl
     rotate_left
     ·simp only [Act.put, List.setIfInBounds_toArray, List.set_cons_zero, List.set_cons_succ, i64_w, i32_w]
      rfl
     refine one_ (i := 3) (N := some 86) #[true, true, true, true, true, true, true, false, false, false] rfl rfl (one_of HT_.out (by kernel_rfl)) (by decide) (fun K hK => ?_)
     refine goes_ Try.func59 (by kernel_rfl) rfl #[.agg #[.int .i64 a0_0, .slice A0_1 l0_1.length c0_1], .slice Ao38 x10_1.length co38, .slice Ao35 t117.length co35] (by rfl) rfl rfl (by (try simp only [List.map_toArray, List.map_cons, List.map_nil]); first | done | rfl | (simp only [List.length_drop, List.length_take]; rfl)) ?_
     with_reducible refine (gFMul.calls k2 a0_0 _ _ l0_1 _ _ x10_1 _ _ t117 t123 _ ?side1 ?side2 ?side3 ?side4 ?side5 ?side6 A27.out).mono ?_
     (case side1 => exact zC (Kd.C_below HR0_1.out HB.out))
     (case side2 => exact HC0_1.out)
     (case side3 => exact zC ((Kd.V_reads' HO_10.out).2.2))
     (case side4 => exact (Kd.V_reads' HO_10.out).2.1)
     (case side5 => exact zC ((Kd.V_reads' HO119.out).2.2))
     (case side6 => exact (Kd.V_reads' HO119.out).2.1)
     rintro e w39 ⟨v124, rfl, ho0, hb⟩
     refine ⟨_, rfl, ?_⟩
     replace HO_10 := zVb HO_10 hb
     replace HO_11 := zVb HO_11 hb
     replace HO_12 := zVb HO_12 hb
     replace HO_14 := zVb HO_14 hb
     replace HO_102000 := zVb HO_102000 hb
     replace HO119 := zVb HO119 hb
     replace HO122 := zVb HO122 hb
     have HO125 := zm (Kd.V_lower (Kd.V_mono (ok' := fun k_ => ((P1_ k_ ∨ P5_ k_) ∨ w.heap.size ≤ k_) ∧ k_ ≠ gb101 ∧ k_ ≠ gb102) ho0 (fun k_ hk_ => ⟨(.inr (Nat.le_trans (zS HB) hk_)), (Kd.freshB (zK BK101.out) k_ hk_), (Kd.freshB (zK BK102.out) k_ hk_)⟩)) (zS HB))
     replace BK101 := zKb BK101 hb
     replace BK102 := zKb BK102 hb
     replace HB := zBb HB hb
     (try clear hb)
     (try clear hb2)
     (try clear hk)
     (try clear hi)
     (try clear ho0)
     obtain ⟨Ao40, co40, eo40⟩ := Kd.V_slice HO122.out
     (first | subst eo40 | (injection eo40 with f1_ f2_ f3_; have f4_ := f1_.symm; have f5_ := f3_.symm; clear f1_ f2_ f3_; subst f4_; subst f5_))
     refine hK.out _ _ ⟨(blk_cell BK102.out 0).trans rfl, (blk_cell BK102.out 1).trans rfl⟩ (fun hHeld => ?_)
     clear hK K
     refine norm_ (a' := ?_) ?_ ?_
     rotate_left
     ·show Act.put _ (some 86) _ = _
      simp only [Act.put, List.setIfInBounds_toArray, List.set_cons_zero, List.set_cons_succ, i64_w, i32_w]
      rfl
     refine one_ (i := 7) (N := some 90) #[true, true, true, true, true, true, true, true, false, false] rfl rfl (one_of HT_.out (by kernel_rfl)) (by decide) (fun K hK => ?_)
     refine goes_ Try.func59 (by kernel_rfl) rfl #[.agg #[.int .i64 a0_0, .slice A0_1 l0_1.length c0_1], .slice Ao19 x11_1.length co19, .slice Ao40 t120.length co40] (by rfl) rfl rfl (by (try simp only [List.map_toArray, List.map_cons, List.map_nil]); first | done | rfl | (simp only [List.length_drop, List.length_take]; rfl)) ?_
     with_reducible refine (gFMul.calls k2 a0_0 _ _ l0_1 _ _ x11_1 _ _ t120 t126 _ ?side1 ?side2 ?side3 ?side4 ?side5 ?side6 A28.out).mono ?_
     (case side1 => exact zC (Kd.C_below HR0_1.out HB.out))
     (case side2 => exact HC0_1.out)
     (case side3 => exact zC ((Kd.V_reads' HO_11.out).2.2))
     (case side4 => exact (Kd.V_reads' HO_11.out).2.1)
     (case side5 => exact zC ((Kd.V_reads' HO122.out).2.2))
     (case side6 => exact (Kd.V_reads' HO122.out).2.1)
     rintro e w41 ⟨v127, rfl, ho0, hb⟩
     refine ⟨_, rfl, ?_⟩
     replace HO_10 := zVb HO_10 hb
     replace HO_11 := zVb HO_11 hb
     replace HO_12 := zVb HO_12 hb
     replace HO_14 := zVb HO_14 hb
     replace HO_102000 := zVb HO_102000 hb
     replace HO119 := zVb HO119 hb
     replace HO122 := zVb HO122 hb
     replace HO125 := zVb HO125 hb
     have HO128 := zm (Kd.V_lower (Kd.V_mono (ok' := fun k_ => ((P1_ k_ ∨ P5_ k_) ∨ w.heap.size ≤ k_) ∧ k_ ≠ gb101 ∧ k_ ≠ gb102) ho0 (fun k_ hk_ => ⟨(.inr (Nat.le_trans (zS HB) hk_)), (Kd.freshB (zK BK101.out) k_ hk_), (Kd.freshB (zK BK102.out) k_ hk_)⟩)) (zS HB))
     replace BK101 := zKb BK101 hb
     replace BK102 := zKb BK102 hb
     replace HB := zBb HB hb
     (try clear hb)
     (try clear hb2)
     (try clear hk)
     (try clear hi)
     (try clear ho0)
     refine hK.out _ _ ⟨(blk_cell BK102.out 0).trans rfl, (blk_cell BK102.out 1).trans rfl⟩ (fun hHeld => ?_)
     clear hK K
     refine norm_ (a' := ?_) ?_ ?_
     rotate_left
     ·show Act.put _ (some 90) _ = _
      simp only [Act.put, List.setIfInBounds_toArray, List.set_cons_zero, List.set_cons_succ, i64_w, i32_w]
      rfl
     refine zP 8 10 ?_; refine zP 9 11 ?_
     refine done_ (done_of HT_.out (by kernel_rfl)) ?_
     try go_wp2
     go_roundg k2
     case measure => have := HK1.out; have := HK2.out; omega
     case rel => exact ⟨(x13_2), (t123), (t126), (t120), zX, H', ⟨by have := HK1.out; have := HK2.out; omega⟩, ⟨zV HO125.out⟩, ⟨zV HO128.out⟩, ⟨zV HO122.out⟩, ⟨zV HO_102000.out⟩, ⟨zK BK101.out⟩, ⟨zK BK102.out⟩, ⟨zT⟩⟩
end Go.Proofs.Ytalnaafmonmlmaa.Q
end

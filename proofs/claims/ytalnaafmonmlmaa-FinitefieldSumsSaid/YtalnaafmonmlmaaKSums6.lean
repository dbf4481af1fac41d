/- Machine side and arithmetic of the law, put together by a program of the session. No conditions. -/
import Derived.Test.YtalnaafmonmlmaaKSums5
section
namespace Go.Proofs.Ytalnaafmonmlmaa.Q
open Go.RowKit Go.Proofs.YtalnaafmonmlmaaW.PrintWords Go.Proofs.YtalnaafmonmlmaaW.PrintLast Go.Proofs.YtalnaafmonmlmaaW.PrintMore
attribute [local go_sem] max2_int min2_int max_two min_two max_three min_three max_four min_four
set_option linter.unusedVariables false
set_option linter.unusedSimpArgs false
set_option maxHeartbeats 8000000
set_option maxRecDepth 100000
def galoisref09_MulMod.f (k : Nat) (a0 : Int) (l1 : List Int) (l2 : List Int) (l3 : List Int) : Option (List Int) := (galoisref09_Mul.f k a0 l1 l2).bind fun t101 => ((galoisref09_Mod.f k a0 t101 l3).bind fun t104 => (some t104))
theorem galoisref09_MulMod.mono : ∀ a0 a1 a2 a3 k, LeO (galoisref09_MulMod.f k a0 a1 a2 a3) (galoisref09_MulMod.f (k + 1) a0 a1 a2 a3) := by
 intro a0 a1 a2 a3 k
 unfold galoisref09_MulMod.f
 with_reducible repeat' first | exact galoisref09_Mod.mono _ _ _ _ | exact galoisref09_Mul.mono _ _ _ _ | exact LeO.refl _ | exact LeO.none _ | refine LeO.ite ?_ ?_ | refine LeO.bind ?_ (fun _ => ?_)
theorem galoisref09_MulMod.calls (k : Nat) (a0 : Int) (A1 : Option Addr) (c1 : Nat) (l1 : List Int) (A2 : Option Addr) (c2 : Nat) (l2 : List Int) (A3 : Option Addr) (c3 : Nat) (l3 : List Int) (r : List Int) (w : World) (hr1 : Kd.C (Kd.int .i64) w A1 l1.length l1) (hc1 : l1.length ≤ c1) (hr2 : Kd.C (Kd.int .i64) w A2 l2.length l2) (hc2 : l2.length ≤ c2) (hr3 : Kd.C (Kd.int .i64) w A3 l3.length l3) (hc3 : l3.length ≤ c3) (h : galoisref09_MulMod.f k a0 l1 l2 l3 = some r) :
  Calls Try.prog 66 #[.int .i64 a0, .slice A1 l1.length c1, .slice A2 l2.length c2, .slice A3 l3.length c3] w fun e w' => ∃ v0_ : Value, e = .returned (v0_) ∧ Kd.V (Kd.int .i64) 3 w' w.heap.size (fun k_ => (w.heap.size ≤ k_)) v0_ r ∧ Below w.heap.size w w' := by
 have HR1 := Aside0.mk hr1
 have HC1 := Aside0.mk hc1
 clear hr1 hc1
 have HR2 := Aside0.mk hr2
 have HC2 := Aside0.mk hc2
 clear hr2 hc2
 have HR3 := Aside0.mk hr3
 have HC3 := Aside0.mk hc3
 clear hr3 hc3
 have HB := Aside0.mk (Below.refl w.heap.size w)
 have H := h; clear h; unfold galoisref09_MulMod.f at H
 obtain ⟨t101, A5, H⟩ := zO H
 obtain ⟨t104, A6, H⟩ := zO H
 obtain rfl := Option.some.inj H
 go_enter Try.func66, Try.ntmps66
 go_wp2_with (first | ((with_reducible refine gate_callee (f := 97) rfl ?_); refine zG (some 13) Try.func97 #[.int .i64 a0, .slice A1 l1.length c1, .slice A2 l2.length c2] ?_; (with_reducible refine (galoisref09_Mul.calls k a0 _ _ l1 _ _ l2 t101 _ ?side1 ?side2 ?side3 ?side4 A5.out).mono ?_); (case side1 => exact zC (HR1.out)); (case side2 => exact HC1.out); (case side3 => exact zC (HR2.out)); (case side4 => exact HC2.out); rintro e w7 ⟨v102, rfl, ho0, hb⟩; refine ⟨_, rfl, ?_⟩; have HO103 := Aside0.mk (Kd.V_lower (Kd.V_mono (ok' := fun k_ => (w.heap.size ≤ k_)) ho0 (fun k_ hk_ => (Nat.le_trans (zS HB) hk_))) (zS HB)); replace HB := zBb HB hb; (try clear hb); (try clear ho0); obtain ⟨Ao8, co8, eo8⟩ := Kd.V_slice HO103.out; subst eo8) | ((with_reducible refine gate_callee (f := 86) rfl ?_); refine zG (some 15) Try.func86 #[.int .i64 a0, .slice Ao8 t101.length co8, .slice A3 l3.length c3] ?_; (with_reducible refine (galoisref09_Mod.calls k a0 _ _ t101 _ _ l3 t104 _ ?side1 ?side2 ?side3 ?side4 A6.out).mono ?_); (case side1 => exact zC ((Kd.V_reads' HO103.out).2.2)); (case side2 => exact (Kd.V_reads' HO103.out).2.1); (case side3 => exact zC ((Kd.C_below HR3.out HB.out))); (case side4 => exact HC3.out); rintro e w9 ⟨v105, rfl, ho0, hb⟩; refine ⟨_, rfl, ?_⟩; replace HO103 := zVb HO103 hb; have HO106 := Aside0.mk (Kd.V_lower (Kd.V_mono (ok' := fun k_ => (w.heap.size ≤ k_)) ho0 (fun k_ hk_ => (Nat.le_trans (zS HB) hk_))) (zS HB)); replace HB := zBb HB hb; (try clear hb); (try clear ho0)))
 go_ret
 exact ⟨_, zQ, zV HO106.out, zT⟩
end Go.Proofs.Ytalnaafmonmlmaa.Q
end
section
namespace Go.Proofs.Ytalnaafmonmlmaa.Q
open Go.RowKit Go.Proofs.YtalnaafmonmlmaaW.PrintWords Go.Proofs.YtalnaafmonmlmaaW.PrintLast Go.Proofs.YtalnaafmonmlmaaW.PrintMore
attribute [local go_sem] max2_int min2_int max_two min_two max_three min_three max_four min_four
set_option linter.unusedVariables false
set_option linter.unusedSimpArgs false
set_option maxHeartbeats 8000000
set_option maxRecDepth 100000
def fp_Rem.f (k : Nat) (a0 : Int) (l1 : List Int) (l2 : List Int) : Option (List Int) := (fp_DivMod.f k a0 l1 l2).bind fun bt101 => (some bt101.2)
theorem fp_Rem.mono : ∀ a0 a1 a2 k, LeO (fp_Rem.f k a0 a1 a2) (fp_Rem.f (k + 1) a0 a1 a2) := by
 intro a0 a1 a2 k
 unfold fp_Rem.f
 with_reducible repeat' first | exact fp_DivMod.mono _ _ _ _ | exact LeO.refl _ | exact LeO.none _ | refine LeO.ite ?_ ?_ | refine LeO.bind ?_ (fun _ => ?_)
theorem fp_Rem.calls (k : Nat) (a0 : Int) (A1 : Option Addr) (c1 : Nat) (l1 : List Int) (A2 : Option Addr) (c2 : Nat) (l2 : List Int) (r : List Int) (w : World) (hr1 : Kd.C (Kd.int .i64) w A1 l1.length l1) (hc1 : l1.length ≤ c1) (hr2 : Kd.C (Kd.int .i64) w A2 l2.length l2) (hc2 : l2.length ≤ c2) (h : fp_Rem.f k a0 l1 l2 = some r) :
  Calls Try.prog 83 #[.int .i64 a0, .slice A1 l1.length c1, .slice A2 l2.length c2] w fun e w' => ∃ v0_ : Value, e = .returned (v0_) ∧ Kd.V (Kd.int .i64) 3 w' w.heap.size (fun k_ => (w.heap.size ≤ k_)) v0_ r ∧ Below w.heap.size w w' := by
 have HR1 := Aside0.mk hr1
 have HC1 := Aside0.mk hc1
 clear hr1 hc1
 have HR2 := Aside0.mk hr2
 have HC2 := Aside0.mk hc2
 clear hr2 hc2
 have HB := Aside0.mk (Below.refl w.heap.size w)
 have H := h; clear h; unfold fp_Rem.f at H
 obtain ⟨⟨t101, t104⟩, A4, H⟩ := zO H; try dsimp only at H
 obtain rfl := Option.some.inj H
 go_enter Try.func83, Try.ntmps83
 go_wp2_with (first | ((with_reducible refine gate_callee (f := 106) rfl ?_); refine zG (some 13) Try.func106 #[.int .i64 a0, .slice A1 l1.length c1, .slice A2 l2.length c2] ?_; (with_reducible refine (fp_DivMod.calls k a0 _ _ l1 _ _ l2 t101 t104 _ ?side1 ?side2 ?side3 ?side4 A4.out).mono ?_); (case side1 => exact zC (HR1.out)); (case side2 => exact HC1.out); (case side3 => exact zC (HR2.out)); (case side4 => exact HC2.out); rintro e w5 ⟨v102, v105, rfl, ho0, ho1, hb⟩; refine ⟨_, rfl, ?_⟩; have HO103 := Aside0.mk (Kd.V_lower (Kd.V_mono (ok' := fun k_ => (w.heap.size ≤ k_)) ho0 (fun k_ hk_ => (Nat.le_trans (zS HB) hk_))) (zS HB)); have HO106 := Aside0.mk (Kd.V_lower (Kd.V_mono (ok' := fun k_ => (w.heap.size ≤ k_)) ho1 (fun k_ hk_ => (Nat.le_trans (zS HB) hk_))) (zS HB)); replace HB := zBb HB hb; (try clear hb); (try clear ho0); (try clear ho1)))
 go_ret
 exact ⟨_, zQ, zV HO106.out, zT⟩
end Go.Proofs.Ytalnaafmonmlmaa.Q
end
section
namespace Go.Proofs.Ytalnaafmonmlmaa.Q
open Go.RowKit Go.Proofs.YtalnaafmonmlmaaW.PrintWords Go.Proofs.YtalnaafmonmlmaaW.PrintLast Go.Proofs.YtalnaafmonmlmaaW.PrintMore
attribute [local go_sem] max2_int min2_int max_two min_two max_three min_three max_four min_four
set_option linter.unusedVariables false
set_option linter.unusedSimpArgs false
set_option maxHeartbeats 8000000
set_option maxRecDepth 100000
def fp_MulMod.f (k : Nat) (a0 : Int) (l1 : List Int) (l2 : List Int) (l3 : List Int) : Option (List Int) := (fp_Mul.f k a0 l1 l2).bind fun t101 => ((fp_Rem.f k a0 t101 l3).bind fun t104 => (some t104))
theorem fp_MulMod.mono : ∀ a0 a1 a2 a3 k, LeO (fp_MulMod.f k a0 a1 a2 a3) (fp_MulMod.f (k + 1) a0 a1 a2 a3) := by
 intro a0 a1 a2 a3 k
 unfold fp_MulMod.f
 with_reducible repeat' first | exact fp_Mul.mono _ _ _ _ | exact fp_Rem.mono _ _ _ _ | exact LeO.refl _ | exact LeO.none _ | refine LeO.ite ?_ ?_ | refine LeO.bind ?_ (fun _ => ?_)
theorem fp_MulMod.calls (k : Nat) (a0 : Int) (A1 : Option Addr) (c1 : Nat) (l1 : List Int) (A2 : Option Addr) (c2 : Nat) (l2 : List Int) (A3 : Option Addr) (c3 : Nat) (l3 : List Int) (r : List Int) (w : World) (hr1 : Kd.C (Kd.int .i64) w A1 l1.length l1) (hc1 : l1.length ≤ c1) (hr2 : Kd.C (Kd.int .i64) w A2 l2.length l2) (hc2 : l2.length ≤ c2) (hr3 : Kd.C (Kd.int .i64) w A3 l3.length l3) (hc3 : l3.length ≤ c3) (h : fp_MulMod.f k a0 l1 l2 l3 = some r) :
  Calls Try.prog 94 #[.int .i64 a0, .slice A1 l1.length c1, .slice A2 l2.length c2, .slice A3 l3.length c3] w fun e w' => ∃ v0_ : Value, e = .returned (v0_) ∧ Kd.V (Kd.int .i64) 3 w' w.heap.size (fun k_ => (w.heap.size ≤ k_)) v0_ r ∧ Below w.heap.size w w' := by
 have HR1 := Aside0.mk hr1
 have HC1 := Aside0.mk hc1
 clear hr1 hc1
 have HR2 := Aside0.mk hr2
 have HC2 := Aside0.mk hc2
 clear hr2 hc2
 have HR3 := Aside0.mk hr3
 have HC3 := Aside0.mk hc3
 clear hr3 hc3
 have HB := Aside0.mk (Below.refl w.heap.size w)
 have H := h; clear h; unfold fp_MulMod.f at H
 obtain ⟨t101, A5, H⟩ := zO H
 obtain ⟨t104, A6, H⟩ := zO H
 obtain rfl := Option.some.inj H
 go_enter Try.func94, Try.ntmps94
 go_wp2_with (first | ((with_reducible refine gate_callee (f := 112) rfl ?_); refine zG (some 13) Try.func112 #[.int .i64 a0, .slice A1 l1.length c1, .slice A2 l2.length c2] ?_; (with_reducible refine (fp_Mul.calls k a0 _ _ l1 _ _ l2 t101 _ ?side1 ?side2 ?side3 ?side4 A5.out).mono ?_); (case side1 => exact zC (HR1.out)); (case side2 => exact HC1.out); (case side3 => exact zC (HR2.out)); (case side4 => exact HC2.out); rintro e w7 ⟨v102, rfl, ho0, hb⟩; refine ⟨_, rfl, ?_⟩; have HO103 := Aside0.mk (Kd.V_lower (Kd.V_mono (ok' := fun k_ => (w.heap.size ≤ k_)) ho0 (fun k_ hk_ => (Nat.le_trans (zS HB) hk_))) (zS HB)); replace HB := zBb HB hb; (try clear hb); (try clear ho0); obtain ⟨Ao8, co8, eo8⟩ := Kd.V_slice HO103.out; subst eo8) | ((with_reducible refine gate_callee (f := 83) rfl ?_); refine zG (some 15) Try.func83 #[.int .i64 a0, .slice Ao8 t101.length co8, .slice A3 l3.length c3] ?_; (with_reducible refine (fp_Rem.calls k a0 _ _ t101 _ _ l3 t104 _ ?side1 ?side2 ?side3 ?side4 A6.out).mono ?_); (case side1 => exact zC ((Kd.V_reads' HO103.out).2.2)); (case side2 => exact (Kd.V_reads' HO103.out).2.1); (case side3 => exact zC ((Kd.C_below HR3.out HB.out))); (case side4 => exact HC3.out); rintro e w9 ⟨v105, rfl, ho0, hb⟩; refine ⟨_, rfl, ?_⟩; replace HO103 := zVb HO103 hb; have HO106 := Aside0.mk (Kd.V_lower (Kd.V_mono (ok' := fun k_ => (w.heap.size ≤ k_)) ho0 (fun k_ hk_ => (Nat.le_trans (zS HB) hk_))) (zS HB)); replace HB := zBb HB hb; (try clear hb); (try clear ho0)))
 go_ret
 exact ⟨_, zQ, zV HO106.out, zT⟩
end Go.Proofs.Ytalnaafmonmlmaa.Q
end
section
namespace Go.Proofs.Ytalnaafmonmlmaa.Q
open Go.RowKit Go.Proofs.YtalnaafmonmlmaaW.PrintWords Go.Proofs.YtalnaafmonmlmaaW.PrintLast Go.Proofs.YtalnaafmonmlmaaW.PrintMore
attribute [local go_sem] max2_int min2_int max_two min_two max_three min_three max_four min_four
set_option linter.unusedVariables false
set_option linter.unusedSimpArgs false
set_option maxHeartbeats 8000000
set_option maxRecDepth 100000
mutual
def galoisref09_PowMod.l0 : Nat → Int → List Int → ByteArray → List Int → List Int → Int → Option (List Int)
 | 0, _, _, _, _, _, _ => none
 | k + 1, x0, x1, x2, x3, x9, x10 => if x10 < (x2.size : Int) then (galoisref09_PowMod.l1 k x0 x1 x2 x3 x9 x10 7) else (some x9)
def galoisref09_PowMod.l1 : Nat → Int → List Int → ByteArray → List Int → List Int → Int → Int → Option (List Int)
 | 0, _, _, _, _, _, _, _ => none
 | k + 1, x0, x1, x2, x3, x9, x10, x11 => if x11 ≥ 0 then ((galoisref09_MulMod.f k x0 x9 x9 x3).bind fun t110 => (if 0 ≤ x10 then (if x10 < (x2.size : Int) then (if 0 ≤ x11 then (if (Int.tmod (shr .u8 (bt x2 x10) x11) 2) = 1 then ((galoisref09_MulMod.f k x0 t110 x1 x3).bind fun t113 => (galoisref09_PowMod.l1 k x0 x1 x2 x3 t113 x10 (wrap64 (x11 - 1)))) else (galoisref09_PowMod.l1 k x0 x1 x2 x3 t110 x10 (wrap64 (x11 - 1)))) else (none)) else (none)) else (none))) else (galoisref09_PowMod.l0 k x0 x1 x2 x3 x9 (wrap64 (x10 + 1)))
end
def galoisref09_PowMod.f (k : Nat) (a0 : Int) (l1 : List Int) (a2 : ByteArray) (l3 : List Int) : Option (List Int) := (galoisref09_Mod.f k a0 (([1] : List Int)) l3).bind fun t104 => ((galoisref09_Mod.f k a0 l1 l3).bind fun t107 => (galoisref09_PowMod.l0 k a0 t107 a2 l3 t104 0))
theorem galoisref09_PowMod.mono_l : ∀ k, (∀ y0 y1 y2 y3 y4 y5, LeO (galoisref09_PowMod.l0 k y0 y1 y2 y3 y4 y5) (galoisref09_PowMod.l0 (k + 1) y0 y1 y2 y3 y4 y5)) ∧ (∀ y0 y1 y2 y3 y4 y5 y6, LeO (galoisref09_PowMod.l1 k y0 y1 y2 y3 y4 y5 y6) (galoisref09_PowMod.l1 (k + 1) y0 y1 y2 y3 y4 y5 y6))
 | 0 => ⟨fun _ _ _ _ _ _ r h => by simp [galoisref09_PowMod.l0] at h, fun _ _ _ _ _ _ _ r h => by simp [galoisref09_PowMod.l1] at h⟩
 | k + 1 => by
  obtain ⟨ih0, ih1⟩ := galoisref09_PowMod.mono_l k
  refine ⟨?_, ?_⟩
  ·intro y0 y1 y2 y3 y4 y5
   unfold galoisref09_PowMod.l0
   with_reducible repeat' first | exact ih0 _ _ _ _ _ _ | exact ih1 _ _ _ _ _ _ _ | exact galoisref09_Mod.mono _ _ _ _ | exact galoisref09_MulMod.mono _ _ _ _ _ | exact LeO.refl _ | exact LeO.none _ | refine LeO.ite ?_ ?_ | refine LeO.bind ?_ (fun _ => ?_)
  intro y0 y1 y2 y3 y4 y5 y6
  unfold galoisref09_PowMod.l1
  with_reducible repeat' first | exact ih0 _ _ _ _ _ _ | exact ih1 _ _ _ _ _ _ _ | exact galoisref09_Mod.mono _ _ _ _ | exact galoisref09_MulMod.mono _ _ _ _ _ | exact LeO.refl _ | exact LeO.none _ | refine LeO.ite ?_ ?_ | refine LeO.bind ?_ (fun _ => ?_)
theorem galoisref09_PowMod.mono : ∀ a0 a1 a2 a3 k, LeO (galoisref09_PowMod.f k a0 a1 a2 a3) (galoisref09_PowMod.f (k + 1) a0 a1 a2 a3) := by
 intro a0 a1 a2 a3 k
 obtain ⟨ih0, ih1⟩ := galoisref09_PowMod.mono_l k
 unfold galoisref09_PowMod.f
 with_reducible repeat' first | exact ih0 _ _ _ _ _ _ | exact ih1 _ _ _ _ _ _ _ | exact galoisref09_Mod.mono _ _ _ _ | exact galoisref09_MulMod.mono _ _ _ _ _ | exact LeO.refl _ | exact LeO.none _ | refine LeO.ite ?_ ?_ | refine LeO.bind ?_ (fun _ => ?_)
theorem galoisref09_PowMod.calls (k : Nat) (a0 : Int) (A1 : Option Addr) (c1 : Nat) (l1 : List Int) (a2 : ByteArray) (A3 : Option Addr) (c3 : Nat) (l3 : List Int) (r : List Int) (w : World) (hr1 : Kd.C (Kd.int .i64) w A1 l1.length l1) (hc1 : l1.length ≤ c1) (hr3 : Kd.C (Kd.int .i64) w A3 l3.length l3) (hc3 : l3.length ≤ c3) (h : galoisref09_PowMod.f k a0 l1 a2 l3 = some r) :
  Calls Try.prog 88 #[.int .i64 a0, .slice A1 l1.length c1, .string a2, .slice A3 l3.length c3] w fun e w' => ∃ v0_ : Value, e = .returned (v0_) ∧ Kd.V (Kd.int .i64) 3 w' w.heap.size (fun k_ => (w.heap.size ≤ k_)) v0_ r ∧ Below w.heap.size w w' := by
 have HR1 := Aside0.mk hr1
 have HC1 := Aside0.mk hc1
 clear hr1 hc1
 have HR3 := Aside0.mk hr3
 have HC3 := Aside0.mk hc3
 clear hr3 hc3
 have HB := Aside0.mk (Below.refl w.heap.size w)
 have H := h; clear h; unfold galoisref09_PowMod.f at H
 obtain ⟨y101, Ny101⟩ := zA ((([1] : List Int)) : List Int); rw [← Ny101.out] at H
 obtain ⟨t104, A5, H⟩ := zO H
 obtain ⟨t107, A6, H⟩ := zO H
 have H' := Aside0.mk H
 clear H
 go_enter Try.func88, Try.ntmps88
 go_wp2_with (first | ((with_reducible refine gate_dst (N := 13) rfl ?_); refine Kd.R_lit (Kd.int .i64) _ 3 ?hg (N := 13) ?hd (xs := ([1] : List Int)) (inner := [.int .i64 1]) (ok := fun _ => True) (okp := fun _ => True) ?hr ?hp (fun _ hk => hk) trivial (Below.refl _ _) (Nat.le_refl _) (by simp) ?_; (case hd => rfl); (case hg => rfl); (case hr => go_simp <;> rfl); (case hp => exact (Reps.one (show Kd.M (Kd.int .i64) _ _ _ 1 [.int .i64 1] from rfl) (Reps.none _ _))); intro v102 w7 ho8 hb hg_ hnew_; clear hg_ hnew_; (first | rw [← Ny101.out] at ho8 | (simp only [Int.reduceToNat] at ho8; rw [← Ny101.out] at ho8)); have HO103 := Aside0.mk (Kd.R_lower (Kd.R_newM (M := fun k_ => (w.heap.size ≤ k_)) ho8 (zS HB) (fun k_ h_ => h_)) (zS HB)); replace HB := zBb HB hb; clear hb ho8; obtain ⟨Ao9, co9, eo9⟩ := Kd.R_slice HO103.out; subst eo9) | ((with_reducible refine gate_callee (f := 86) rfl ?_); refine zG (some 15) Try.func86 #[.int .i64 a0, .slice Ao9 y101.length co9, .slice A3 l3.length c3] ?_; (with_reducible refine (galoisref09_Mod.calls k a0 _ _ y101 _ _ l3 t104 _ ?side1 ?side2 ?side3 ?side4 A5.out).mono ?_); (case side1 => exact zC ((Kd.R_reads' HO103.out).2.2)); (case side2 => exact (Kd.R_reads' HO103.out).2.1); (case side3 => exact zC ((Kd.C_below HR3.out HB.out))); (case side4 => exact HC3.out); rintro e w10 ⟨v105, rfl, ho0, hb⟩; refine ⟨_, rfl, ?_⟩; have HO106 := Aside0.mk (Kd.V_lower (Kd.V_mono (ok' := fun k_ => (w.heap.size ≤ k_) ∧ some k_ ≠ (.slice Ao9 y101.length co9 : Value).ownBlock) ho0 (fun k_ hk_ => ⟨(Nat.le_trans (zS HB) hk_), (Kd.fresh' (Kd.R_lt (zR HO103.out)) k_ hk_)⟩)) (zS HB)); replace HO103 := zRb HO103 hb; replace HB := zBb HB hb; (try clear hb); (try clear ho0)) | ((with_reducible refine gate_callee (f := 86) rfl ?_); refine zG (some 19) Try.func86 #[.int .i64 a0, .slice A1 l1.length c1, .slice A3 l3.length c3] ?_; (with_reducible refine (galoisref09_Mod.calls k a0 _ _ l1 _ _ l3 t107 _ ?side1 ?side2 ?side3 ?side4 A6.out).mono ?_); (case side1 => exact zC (Kd.C_below HR1.out HB.out)); (case side2 => exact HC1.out); (case side3 => exact zC (Kd.C_below HR3.out HB.out)); (case side4 => exact HC3.out); rintro e w11 ⟨v108, rfl, ho0, hb⟩; refine ⟨_, rfl, ?_⟩; replace HO106 := zVb HO106 hb; have HO109 := Aside0.mk (Kd.V_lower (Kd.V_mono (ok' := fun k_ => (w.heap.size ≤ k_) ∧ some k_ ≠ (.slice Ao9 y101.length co9 : Value).ownBlock) ho0 (fun k_ hk_ => ⟨(Nat.le_trans (zS HB) hk_), (Kd.fresh' (Kd.R_lt (zR HO103.out)) k_ hk_)⟩)) (zS HB)); replace HO103 := zRb HO103 hb; replace HB := zBb HB hb; (try clear hb); (try clear ho0)))
 go_loopg [9, 10] k (fun kq v9 v10 w' => ∃ (x9_1 : List Int) (x10_1 : Int), v10 = .int .i64 x10_1 ∧ Aside0 (galoisref09_PowMod.l0 kq a0 t107 a2 l3 x9_1 x10_1 = some r) ∧ Aside0 (kq ≤ k) ∧ Aside0 (Kd.V (Kd.int .i64) 3 w' w.heap.size (fun k_ => (w.heap.size ≤ k_)) v108 t107) ∧ Aside0 (Kd.V (Kd.int .i64) 3 w' w.heap.size (fun k_ => (w.heap.size ≤ k_)) v9 x9_1) ∧ Aside0 (Below w.heap.size w w'))
 case atStart => exact ⟨(t104), (0), zX, H', ⟨Nat.le_refl _⟩, ⟨zV (Kd.V_mono HO109.out (fun _ hk => hk.1))⟩, ⟨zV (Kd.V_mono HO106.out (fun _ hk => hk.1))⟩, ⟨zT⟩⟩
 case round =>
  clear H'
  try clear c1; try clear p2; try clear c3; try clear c8
  obtain ⟨x9_1, x10_1, rfl, HA, HK1, HO_1, HO_9, HB⟩ := hrel
  cases gk with
  | zero => exact absurd HA.out (by simp [galoisref09_PowMod.l0])
  | succ k1 =>
   have H := HA.out
   clear HA
   simp only [galoisref09_PowMod.l0] at H
   by_cases c12 : x10_1 < (a2.size : Int)
   rotate_left
   ·rw [if_neg c12] at H
    have c12b0 := decide_eq_false c12; clear c12
    obtain rfl := Option.some.inj H
    go_wp2
    go_ret
    exact ⟨_, zQ, zV HO_9.out, zT⟩
   rw [if_pos c12] at H
   have c12b0 := decide_eq_true c12; clear c12
   have H' := Aside0.mk H
   clear H
   go_wp2
   go_loopg [9, 11] k1 (fun kq v9 v11 w' => ∃ (x9_2 : List Int) (x11_2 : Int), v11 = .int .i64 x11_2 ∧ Aside0 (galoisref09_PowMod.l1 kq a0 t107 a2 l3 x9_2 x10_1 x11_2 = some r) ∧ Aside0 (kq ≤ k1) ∧ Aside0 (Kd.V (Kd.int .i64) 3 w' w.heap.size (fun k_ => (w.heap.size ≤ k_)) v108 t107) ∧ Aside0 (Kd.V (Kd.int .i64) 3 w' w.heap.size (fun k_ => (w.heap.size ≤ k_)) v9 x9_2) ∧ Aside0 (Below w.heap.size w w'))
   case atStart => exact ⟨(x9_1), (7), zX, H', ⟨Nat.le_refl _⟩, ⟨zV HO_1.out⟩, ⟨zV HO_9.out⟩, ⟨zT⟩⟩
   case round =>
    clear H'
    try clear c1; try clear p2; try clear c3; try clear c8; try clear c12; try clear c12b0; try clear p2
    obtain ⟨x9_2, x11_2, rfl, HA, HK2, HO_1, HO_9, HB⟩ := hrel
    cases gk with
    | zero => exact absurd HA.out (by simp [galoisref09_PowMod.l1])
    | succ k2 =>
     have H := HA.out
     clear HA
     simp only [galoisref09_PowMod.l1] at H
     by_cases c13 : x11_2 ≥ 0
     rotate_left
     ·rw [if_neg c13] at H
      have c13b0 := decide_eq_false c13; clear c13
      have H' := Aside0.mk H
      clear H
      go_wp2
      go_roundg k2
      case measure => have := HK1.out; have := HK2.out; omega
      case rel => exact ⟨(x9_2), (wrap64 (x10_1 + 1)), zX, H', ⟨by have := HK1.out; have := HK2.out; omega⟩, ⟨zV HO_1.out⟩, ⟨zV HO_9.out⟩, ⟨zT⟩⟩
     rw [if_pos c13] at H
     have c13b0 := decide_eq_true c13; clear c13
     obtain ⟨t110, A14, H⟩ := zO H
     by_cases c15 : 0 ≤ x10_1
     rotate_left
     ·rw [if_neg c15] at H
      exact absurd H (by simp)
     rw [if_pos c15] at H
     have c15b0 := decide_eq_true c15; clear c15
     by_cases c16 : x10_1 < (a2.size : Int)
     rotate_left
     ·rw [if_neg c16] at H
      exact absurd H (by simp)
     rw [if_pos c16] at H
     have c16b0 := decide_eq_true c16; clear c16
     by_cases c18 : 0 ≤ x11_2
     rotate_left
     ·rw [if_neg c18] at H
      exact absurd H (by simp)
     rw [if_pos c18] at H
     have c18b0 := eq_true c18; have c18b1 := decide_eq_true c18; clear c18
     obtain ⟨ji19, hji19⟩ : ∃ j_ : Int, (shr .u8 (bt a2 x10_1) x11_2) = j_ := ⟨_, rfl⟩
     first | rw [hji19] at H | simp only [hji19] at H
     (try rw [hji19] at A14)
     have hji19_ : ((bt a2 x10_1) / 2 ^ min x11_2.toNat 8) = ji19 := hji19
     have hji19z : x11_2 ≤ 8 → ((bt a2 x10_1) / 2 ^ x11_2.toNat) = ji19 := shr_small hji19
     by_cases c20 : (Int.tmod (ji19) 2) = 1
     rotate_left
     ·rw [if_neg c20] at H
      obtain ⟨c20b0, c20b1⟩ := zU c20
      have H' := Aside0.mk H
      clear H
      obtain ⟨Ao27, co27, eo27⟩ := Kd.V_slice HO_9.out
      subst eo27
      go_wp2_with (first | ((with_reducible refine gate_callee (f := 66) rfl ?_); refine zG (some 34) Try.func66 #[.int .i64 a0, .slice Ao27 x9_2.length co27, .slice Ao27 x9_2.length co27, .slice A3 l3.length c3] ?_; (with_reducible refine (galoisref09_MulMod.calls k2 a0 _ _ x9_2 _ _ x9_2 _ _ l3 t110 _ ?side1 ?side2 ?side3 ?side4 ?side5 ?side6 A14.out).mono ?_); (case side1 => exact zC ((Kd.V_reads' HO_9.out).2.2)); (case side2 => exact (Kd.V_reads' HO_9.out).2.1); (case side3 => exact zC ((Kd.V_reads' HO_9.out).2.2)); (case side4 => exact (Kd.V_reads' HO_9.out).2.1); (case side5 => exact zC ((Kd.C_below HR3.out HB.out))); (case side6 => exact HC3.out); rintro e w28 ⟨v111, rfl, ho0, hb⟩; refine ⟨_, rfl, ?_⟩; replace HO_1 := zVb HO_1 hb; replace HO_9 := zVb HO_9 hb; have HO112 := Aside0.mk (Kd.V_lower (Kd.V_mono (ok' := fun k_ => (w.heap.size ≤ k_)) ho0 (fun k_ hk_ => (Nat.le_trans (zS HB) hk_))) (zS HB)); replace HB := zBb HB hb; (try clear hb); (try clear ho0); have p17 : 0 ≤ (x10_1 : Int) := zD; have q17 : x10_1 < (a2.size : Int) := zD; have hx17 := bt_at a2 x10_1; replace p17 := eq_true p17; replace q17 := eq_true q17))
      go_roundg k2
      case measure => have := HK1.out; have := HK2.out; omega
      case rel => exact ⟨(t110), (wrap64 (x11_2 - 1)), zX, H', ⟨by have := HK1.out; have := HK2.out; omega⟩, ⟨zV HO_1.out⟩, ⟨zV HO112.out⟩, ⟨zT⟩⟩
     rw [if_pos c20] at H
     obtain ⟨c20b0, c20b1⟩ := zE c20; clear c20
     obtain ⟨t113, A21, H⟩ := zO H
     have H' := Aside0.mk H
     clear H
     obtain ⟨Ao22, co22, eo22⟩ := Kd.V_slice HO_9.out
     subst eo22
     go_wp2_with (first | ((with_reducible refine gate_callee (f := 66) rfl ?_); refine zG (some 34) Try.func66 #[.int .i64 a0, .slice Ao22 x9_2.length co22, .slice Ao22 x9_2.length co22, .slice A3 l3.length c3] ?_; (with_reducible refine (galoisref09_MulMod.calls k2 a0 _ _ x9_2 _ _ x9_2 _ _ l3 t110 _ ?side1 ?side2 ?side3 ?side4 ?side5 ?side6 A14.out).mono ?_); (case side1 => exact zC ((Kd.V_reads' HO_9.out).2.2)); (case side2 => exact (Kd.V_reads' HO_9.out).2.1); (case side3 => exact zC ((Kd.V_reads' HO_9.out).2.2)); (case side4 => exact (Kd.V_reads' HO_9.out).2.1); (case side5 => exact zC ((Kd.C_below HR3.out HB.out))); (case side6 => exact HC3.out); rintro e w23 ⟨v111, rfl, ho0, hb⟩; refine ⟨_, rfl, ?_⟩; replace HO_1 := zVb HO_1 hb; replace HO_9 := zVb HO_9 hb; have HO112 := Aside0.mk (Kd.V_lower (Kd.V_mono (ok' := fun k_ => (w.heap.size ≤ k_)) ho0 (fun k_ hk_ => (Nat.le_trans (zS HB) hk_))) (zS HB)); replace HB := zBb HB hb; (try clear hb); (try clear ho0); have p17 : 0 ≤ (x10_1 : Int) := zD; have q17 : x10_1 < (a2.size : Int) := zD; have hx17 := bt_at a2 x10_1; replace p17 := eq_true p17; replace q17 := eq_true q17; obtain ⟨Ao24, co24, eo24⟩ := Kd.V_slice HO112.out; subst eo24; obtain ⟨Ao25, co25, eo25⟩ := Kd.V_slice HO_1.out; subst eo25) | ((with_reducible refine gate_callee (f := 66) rfl ?_); refine zG (some 46) Try.func66 #[.int .i64 a0, .slice Ao24 t110.length co24, .slice Ao25 t107.length co25, .slice A3 l3.length c3] ?_; (with_reducible refine (galoisref09_MulMod.calls k2 a0 _ _ t110 _ _ t107 _ _ l3 t113 _ ?side1 ?side2 ?side3 ?side4 ?side5 ?side6 A21.out).mono ?_); (case side1 => exact zC ((Kd.V_reads' HO112.out).2.2)); (case side2 => exact (Kd.V_reads' HO112.out).2.1); (case side3 => exact zC ((Kd.V_reads' HO_1.out).2.2)); (case side4 => exact (Kd.V_reads' HO_1.out).2.1); (case side5 => exact zC ((Kd.C_below HR3.out HB.out))); (case side6 => exact HC3.out); rintro e w26 ⟨v114, rfl, ho0, hb⟩; refine ⟨_, rfl, ?_⟩; replace HO_1 := zVb HO_1 hb; replace HO_9 := zVb HO_9 hb; replace HO112 := zVb HO112 hb; have HO115 := Aside0.mk (Kd.V_lower (Kd.V_mono (ok' := fun k_ => (w.heap.size ≤ k_)) ho0 (fun k_ hk_ => (Nat.le_trans (zS HB) hk_))) (zS HB)); replace HB := zBb HB hb; (try clear hb); (try clear ho0)))
     go_roundg k2
     case measure => have := HK1.out; have := HK2.out; omega
     case rel => exact ⟨(t113), (wrap64 (x11_2 - 1)), zX, H', ⟨by have := HK1.out; have := HK2.out; omega⟩, ⟨zV HO_1.out⟩, ⟨zV HO115.out⟩, ⟨zT⟩⟩
end Go.Proofs.Ytalnaafmonmlmaa.Q
end
section
namespace Go.Proofs.Ytalnaafmonmlmaa.Q
open Go.RowKit Go.Proofs.YtalnaafmonmlmaaW.PrintWords Go.Proofs.YtalnaafmonmlmaaW.PrintLast Go.Proofs.YtalnaafmonmlmaaW.PrintMore
attribute [local go_sem] max2_int min2_int max_two min_two max_three min_three max_four min_four
set_option linter.unusedVariables false
set_option linter.unusedSimpArgs false
set_option maxHeartbeats 8000000
set_option maxRecDepth 100000
mutual
def fp_PowMod.l0 : Nat → Int → ByteArray → List Int → List Int → List Int → Int → Int → Option (List Int)
 | 0, _, _, _, _, _, _, _ => none
 | k + 1, x0, x2, x3, x9, x10, x22, x23 => if x23 < x22 then (fp_PowMod.l1 k x0 x2 x3 x9 x10 x23 7 x22 x23) else (some x9)
def fp_PowMod.l1 : Nat → Int → ByteArray → List Int → List Int → List Int → Int → Int → Int → Int → Option (List Int)
 | 0, _, _, _, _, _, _, _, _, _ => none
 | k + 1, x0, x2, x3, x9, x10, x11, x12, x22, x23 => if x12 ≥ 0 then ((fp_MulMod.f k x0 x9 x9 x3).bind fun t110 => (if 0 ≤ x11 then (if x11 < (x2.size : Int) then (if 0 ≤ x12 then (if (Go.bits .and .u8 (shr .u8 (bt x2 x11) x12) 1) = 1 then ((fp_MulMod.f k x0 t110 x10 x3).bind fun t113 => (fp_PowMod.l1 k x0 x2 x3 t113 x10 x11 (wrap64 (x12 - 1)) x22 x23)) else (fp_PowMod.l1 k x0 x2 x3 t110 x10 x11 (wrap64 (x12 - 1)) x22 x23)) else (none)) else (none)) else (none))) else (fp_PowMod.l0 k x0 x2 x3 x9 x10 x22 (wrap64 (x23 + 1)))
end
def fp_PowMod.f (k : Nat) (a0 : Int) (l1 : List Int) (a2 : ByteArray) (l3 : List Int) : Option (List Int) := (fp_Rem.f k a0 (([1] : List Int)) l3).bind fun t104 => ((fp_Rem.f k a0 l1 l3).bind fun t107 => (fp_PowMod.l0 k a0 a2 l3 t104 t107 (a2.size : Int) 0))
theorem fp_PowMod.mono_l : ∀ k, (∀ y0 y1 y2 y3 y4 y5 y6, LeO (fp_PowMod.l0 k y0 y1 y2 y3 y4 y5 y6) (fp_PowMod.l0 (k + 1) y0 y1 y2 y3 y4 y5 y6)) ∧ (∀ y0 y1 y2 y3 y4 y5 y6 y7 y8, LeO (fp_PowMod.l1 k y0 y1 y2 y3 y4 y5 y6 y7 y8) (fp_PowMod.l1 (k + 1) y0 y1 y2 y3 y4 y5 y6 y7 y8))
 | 0 => ⟨fun _ _ _ _ _ _ _ r h => by simp [fp_PowMod.l0] at h, fun _ _ _ _ _ _ _ _ _ r h => by simp [fp_PowMod.l1] at h⟩
 | k + 1 => by
  obtain ⟨ih0, ih1⟩ := fp_PowMod.mono_l k
  refine ⟨?_, ?_⟩
  ·intro y0 y1 y2 y3 y4 y5 y6
   unfold fp_PowMod.l0
   with_reducible repeat' first | exact ih0 _ _ _ _ _ _ _ | exact ih1 _ _ _ _ _ _ _ _ _ | exact fp_MulMod.mono _ _ _ _ _ | exact fp_Rem.mono _ _ _ _ | exact LeO.refl _ | exact LeO.none _ | refine LeO.ite ?_ ?_ | refine LeO.bind ?_ (fun _ => ?_)
  intro y0 y1 y2 y3 y4 y5 y6 y7 y8
  unfold fp_PowMod.l1
  with_reducible repeat' first | exact ih0 _ _ _ _ _ _ _ | exact ih1 _ _ _ _ _ _ _ _ _ | exact fp_MulMod.mono _ _ _ _ _ | exact fp_Rem.mono _ _ _ _ | exact LeO.refl _ | exact LeO.none _ | refine LeO.ite ?_ ?_ | refine LeO.bind ?_ (fun _ => ?_)
theorem fp_PowMod.mono : ∀ a0 a1 a2 a3 k, LeO (fp_PowMod.f k a0 a1 a2 a3) (fp_PowMod.f (k + 1) a0 a1 a2 a3) := by
 intro a0 a1 a2 a3 k
 obtain ⟨ih0, ih1⟩ := fp_PowMod.mono_l k
 unfold fp_PowMod.f
 with_reducible repeat' first | exact ih0 _ _ _ _ _ _ _ | exact ih1 _ _ _ _ _ _ _ _ _ | exact fp_MulMod.mono _ _ _ _ _ | exact fp_Rem.mono _ _ _ _ | exact LeO.refl _ | exact LeO.none _ | refine LeO.ite ?_ ?_ | refine LeO.bind ?_ (fun _ => ?_)
theorem fp_PowMod.calls (k : Nat) (a0 : Int) (A1 : Option Addr) (c1 : Nat) (l1 : List Int) (a2 : ByteArray) (A3 : Option Addr) (c3 : Nat) (l3 : List Int) (r : List Int) (w : World) (hr1 : Kd.C (Kd.int .i64) w A1 l1.length l1) (hc1 : l1.length ≤ c1) (hr3 : Kd.C (Kd.int .i64) w A3 l3.length l3) (hc3 : l3.length ≤ c3) (h : fp_PowMod.f k a0 l1 a2 l3 = some r) :
  Calls Try.prog 99 #[.int .i64 a0, .slice A1 l1.length c1, .string a2, .slice A3 l3.length c3] w fun e w' => ∃ v0_ : Value, e = .returned (v0_) ∧ Kd.V (Kd.int .i64) 3 w' w.heap.size (fun k_ => (w.heap.size ≤ k_)) v0_ r ∧ Below w.heap.size w w' := by
 have HR1 := Aside0.mk hr1
 have HC1 := Aside0.mk hc1
 clear hr1 hc1
 have HR3 := Aside0.mk hr3
 have HC3 := Aside0.mk hc3
 clear hr3 hc3
 have HB := Aside0.mk (Below.refl w.heap.size w)
 have H := h; clear h; unfold fp_PowMod.f at H
 obtain ⟨y101, Ny101⟩ := zA ((([1] : List Int)) : List Int); rw [← Ny101.out] at H
 obtain ⟨t104, A5, H⟩ := zO H
 obtain ⟨t107, A6, H⟩ := zO H
 have H' := Aside0.mk H
 clear H
 go_enter Try.func99, Try.ntmps99
 go_wp2_with (first | ((with_reducible refine gate_dst (N := 14) rfl ?_); refine Kd.R_lit (Kd.int .i64) _ 3 ?hg (N := 14) ?hd (xs := ([1] : List Int)) (inner := [.int .i64 1]) (ok := fun _ => True) (okp := fun _ => True) ?hr ?hp (fun _ hk => hk) trivial (Below.refl _ _) (Nat.le_refl _) (by simp) ?_; (case hd => rfl); (case hg => rfl); (case hr => go_simp <;> rfl); (case hp => exact (Reps.one (show Kd.M (Kd.int .i64) _ _ _ 1 [.int .i64 1] from rfl) (Reps.none _ _))); intro v102 w7 ho8 hb hg_ hnew_; clear hg_ hnew_; (first | rw [← Ny101.out] at ho8 | (simp only [Int.reduceToNat] at ho8; rw [← Ny101.out] at ho8)); have HO103 := Aside0.mk (Kd.R_lower (Kd.R_newM (M := fun k_ => (w.heap.size ≤ k_)) ho8 (zS HB) (fun k_ h_ => h_)) (zS HB)); replace HB := zBb HB hb; clear hb ho8; obtain ⟨Ao9, co9, eo9⟩ := Kd.R_slice HO103.out; subst eo9) | ((with_reducible refine gate_callee (f := 83) rfl ?_); refine zG (some 16) Try.func83 #[.int .i64 a0, .slice Ao9 y101.length co9, .slice A3 l3.length c3] ?_; (with_reducible refine (fp_Rem.calls k a0 _ _ y101 _ _ l3 t104 _ ?side1 ?side2 ?side3 ?side4 A5.out).mono ?_); (case side1 => exact zC ((Kd.R_reads' HO103.out).2.2)); (case side2 => exact (Kd.R_reads' HO103.out).2.1); (case side3 => exact zC ((Kd.C_below HR3.out HB.out))); (case side4 => exact HC3.out); rintro e w10 ⟨v105, rfl, ho0, hb⟩; refine ⟨_, rfl, ?_⟩; have HO106 := Aside0.mk (Kd.V_lower (Kd.V_mono (ok' := fun k_ => (w.heap.size ≤ k_) ∧ some k_ ≠ (.slice Ao9 y101.length co9 : Value).ownBlock) ho0 (fun k_ hk_ => ⟨(Nat.le_trans (zS HB) hk_), (Kd.fresh' (Kd.R_lt (zR HO103.out)) k_ hk_)⟩)) (zS HB)); replace HO103 := zRb HO103 hb; replace HB := zBb HB hb; (try clear hb); (try clear ho0)) | ((with_reducible refine gate_callee (f := 83) rfl ?_); refine zG (some 20) Try.func83 #[.int .i64 a0, .slice A1 l1.length c1, .slice A3 l3.length c3] ?_; (with_reducible refine (fp_Rem.calls k a0 _ _ l1 _ _ l3 t107 _ ?side1 ?side2 ?side3 ?side4 A6.out).mono ?_); (case side1 => exact zC (Kd.C_below HR1.out HB.out)); (case side2 => exact HC1.out); (case side3 => exact zC (Kd.C_below HR3.out HB.out)); (case side4 => exact HC3.out); rintro e w11 ⟨v108, rfl, ho0, hb⟩; refine ⟨_, rfl, ?_⟩; replace HO106 := zVb HO106 hb; have HO109 := Aside0.mk (Kd.V_lower (Kd.V_mono (ok' := fun k_ => (w.heap.size ≤ k_) ∧ some k_ ≠ (.slice Ao9 y101.length co9 : Value).ownBlock) ho0 (fun k_ hk_ => ⟨(Nat.le_trans (zS HB) hk_), (Kd.fresh' (Kd.R_lt (zR HO103.out)) k_ hk_)⟩)) (zS HB)); replace HO103 := zRb HO103 hb; replace HB := zBb HB hb; (try clear hb); (try clear ho0)))
 go_loopg [9, 23] k (fun kq v9 v23 w' => ∃ (x9_1 : List Int) (x23_1 : Int), v23 = .int .i64 x23_1 ∧ Aside0 (fp_PowMod.l0 kq a0 a2 l3 x9_1 t107 (a2.size : Int) x23_1 = some r) ∧ Aside0 (kq ≤ k) ∧ Aside0 (Kd.V (Kd.int .i64) 3 w' w.heap.size (fun k_ => (w.heap.size ≤ k_)) v9 x9_1) ∧ Aside0 (Kd.V (Kd.int .i64) 3 w' w.heap.size (fun k_ => (w.heap.size ≤ k_)) v108 t107) ∧ Aside0 (Below w.heap.size w w'))
 case atStart => exact ⟨(t104), (0), zX, H', ⟨Nat.le_refl _⟩, ⟨zV (Kd.V_mono HO106.out (fun _ hk => hk.1))⟩, ⟨zV (Kd.V_mono HO109.out (fun _ hk => hk.1))⟩, ⟨zT⟩⟩
 case round =>
  clear H'
  try clear c1; try clear p2; try clear c3; try clear c8; try clear c9
  obtain ⟨x9_1, x23_1, rfl, HA, HK1, HO_9, HO_10, HB⟩ := hrel
  cases gk with
  | zero => exact absurd HA.out (by simp [fp_PowMod.l0])
  | succ k1 =>
   have H := HA.out
   clear HA
   simp only [fp_PowMod.l0] at H
   by_cases c12 : x23_1 < (a2.size : Int)
   rotate_left
   ·rw [if_neg c12] at H
    have c12b0 := decide_eq_false c12; clear c12
    obtain rfl := Option.some.inj H
    go_wp2
    go_ret
    exact ⟨_, zQ, zV HO_9.out, zT⟩
   rw [if_pos c12] at H
   have c12b0 := decide_eq_true c12; clear c12
   have H' := Aside0.mk H
   clear H
   go_wp2
   go_loopg [9, 12] k1 (fun kq v9 v12 w' => ∃ (x9_2 : List Int) (x12_2 : Int), v12 = .int .i64 x12_2 ∧ Aside0 (fp_PowMod.l1 kq a0 a2 l3 x9_2 t107 x23_1 x12_2 (a2.size : Int) x23_1 = some r) ∧ Aside0 (kq ≤ k1) ∧ Aside0 (Kd.V (Kd.int .i64) 3 w' w.heap.size (fun k_ => (w.heap.size ≤ k_)) v9 x9_2) ∧ Aside0 (Kd.V (Kd.int .i64) 3 w' w.heap.size (fun k_ => (w.heap.size ≤ k_)) v108 t107) ∧ Aside0 (Below w.heap.size w w'))
   case atStart => exact ⟨(x9_1), (7), zX, H', ⟨Nat.le_refl _⟩, ⟨zV HO_9.out⟩, ⟨zV HO_10.out⟩, ⟨zT⟩⟩
   case round =>
    clear H'
    try clear c1; try clear p2; try clear c3; try clear c8; try clear c9; try clear c12; try clear c12b0; try clear p2
    obtain ⟨x9_2, x12_2, rfl, HA, HK2, HO_9, HO_10, HB⟩ := hrel
    cases gk with
    | zero => exact absurd HA.out (by simp [fp_PowMod.l1])
    | succ k2 =>
     have H := HA.out
     clear HA
     simp only [fp_PowMod.l1] at H
     by_cases c13 : x12_2 ≥ 0
     rotate_left
     ·rw [if_neg c13] at H
      have c13b0 := decide_eq_false c13; clear c13
      have H' := Aside0.mk H
      clear H
      go_wp2
      go_roundg k2
      case measure => have := HK1.out; have := HK2.out; omega
      case rel => exact ⟨(x9_2), (wrap64 (x23_1 + 1)), zX, H', ⟨by have := HK1.out; have := HK2.out; omega⟩, ⟨zV HO_9.out⟩, ⟨zV HO_10.out⟩, ⟨zT⟩⟩
     rw [if_pos c13] at H
     have c13b0 := decide_eq_true c13; clear c13
     obtain ⟨t110, A14, H⟩ := zO H
     by_cases c15 : 0 ≤ x23_1
     rotate_left
     ·rw [if_neg c15] at H
      exact absurd H (by simp)
     rw [if_pos c15] at H
     have c15b0 := decide_eq_true c15; clear c15
     by_cases c16 : x23_1 < (a2.size : Int)
     rotate_left
     ·rw [if_neg c16] at H
      exact absurd H (by simp)
     rw [if_pos c16] at H
     have c16b0 := decide_eq_true c16; clear c16
     by_cases c18 : 0 ≤ x12_2
     rotate_left
     ·rw [if_neg c18] at H
      exact absurd H (by simp)
     rw [if_pos c18] at H
     have c18b0 := eq_true c18; have c18b1 := decide_eq_true c18; clear c18
     obtain ⟨ji19, hji19⟩ : ∃ j_ : Int, (shr .u8 (bt a2 x23_1) x12_2) = j_ := ⟨_, rfl⟩
     first | rw [hji19] at H | simp only [hji19] at H
     (try rw [hji19] at A14)
     have hji19_ : ((bt a2 x23_1) / 2 ^ min x12_2.toNat 8) = ji19 := hji19
     have hji19z : x12_2 ≤ 8 → ((bt a2 x23_1) / 2 ^ x12_2.toNat) = ji19 := shr_small hji19
     by_cases c20 : (Go.bits .and .u8 (ji19) 1) = 1
     rotate_left
     ·rw [if_neg c20] at H
      obtain ⟨c20b0, c20b1⟩ := zU c20
      have H' := Aside0.mk H
      clear H
      obtain ⟨Ao27, co27, eo27⟩ := Kd.V_slice HO_9.out
      subst eo27
      go_wp2_with (first | ((with_reducible refine gate_callee (f := 94) rfl ?_); refine zG (some 34) Try.func94 #[.int .i64 a0, .slice Ao27 x9_2.length co27, .slice Ao27 x9_2.length co27, .slice A3 l3.length c3] ?_; (with_reducible refine (fp_MulMod.calls k2 a0 _ _ x9_2 _ _ x9_2 _ _ l3 t110 _ ?side1 ?side2 ?side3 ?side4 ?side5 ?side6 A14.out).mono ?_); (case side1 => exact zC ((Kd.V_reads' HO_9.out).2.2)); (case side2 => exact (Kd.V_reads' HO_9.out).2.1); (case side3 => exact zC ((Kd.V_reads' HO_9.out).2.2)); (case side4 => exact (Kd.V_reads' HO_9.out).2.1); (case side5 => exact zC ((Kd.C_below HR3.out HB.out))); (case side6 => exact HC3.out); rintro e w28 ⟨v111, rfl, ho0, hb⟩; refine ⟨_, rfl, ?_⟩; replace HO_9 := zVb HO_9 hb; replace HO_10 := zVb HO_10 hb; have HO112 := Aside0.mk (Kd.V_lower (Kd.V_mono (ok' := fun k_ => (w.heap.size ≤ k_)) ho0 (fun k_ hk_ => (Nat.le_trans (zS HB) hk_))) (zS HB)); replace HB := zBb HB hb; (try clear hb); (try clear ho0); have p17 : 0 ≤ (x23_1 : Int) := zD; have q17 : x23_1 < (a2.size : Int) := zD; have hx17 := bt_at a2 x23_1; replace p17 := eq_true p17; replace q17 := eq_true q17))
      go_roundg k2
      case measure => have := HK1.out; have := HK2.out; omega
      case rel => exact ⟨(t110), (wrap64 (x12_2 - 1)), zX, H', ⟨by have := HK1.out; have := HK2.out; omega⟩, ⟨zV HO112.out⟩, ⟨zV HO_10.out⟩, ⟨zT⟩⟩
     rw [if_pos c20] at H
     obtain ⟨c20b0, c20b1⟩ := zE c20; clear c20
     obtain ⟨t113, A21, H⟩ := zO H
     have H' := Aside0.mk H
     clear H
     obtain ⟨Ao22, co22, eo22⟩ := Kd.V_slice HO_9.out
     subst eo22
     go_wp2_with (first | ((with_reducible refine gate_callee (f := 94) rfl ?_); refine zG (some 34) Try.func94 #[.int .i64 a0, .slice Ao22 x9_2.length co22, .slice Ao22 x9_2.length co22, .slice A3 l3.length c3] ?_; (with_reducible refine (fp_MulMod.calls k2 a0 _ _ x9_2 _ _ x9_2 _ _ l3 t110 _ ?side1 ?side2 ?side3 ?side4 ?side5 ?side6 A14.out).mono ?_); (case side1 => exact zC ((Kd.V_reads' HO_9.out).2.2)); (case side2 => exact (Kd.V_reads' HO_9.out).2.1); (case side3 => exact zC ((Kd.V_reads' HO_9.out).2.2)); (case side4 => exact (Kd.V_reads' HO_9.out).2.1); (case side5 => exact zC ((Kd.C_below HR3.out HB.out))); (case side6 => exact HC3.out); rintro e w23 ⟨v111, rfl, ho0, hb⟩; refine ⟨_, rfl, ?_⟩; replace HO_9 := zVb HO_9 hb; replace HO_10 := zVb HO_10 hb; have HO112 := Aside0.mk (Kd.V_lower (Kd.V_mono (ok' := fun k_ => (w.heap.size ≤ k_)) ho0 (fun k_ hk_ => (Nat.le_trans (zS HB) hk_))) (zS HB)); replace HB := zBb HB hb; (try clear hb); (try clear ho0); have p17 : 0 ≤ (x23_1 : Int) := zD; have q17 : x23_1 < (a2.size : Int) := zD; have hx17 := bt_at a2 x23_1; replace p17 := eq_true p17; replace q17 := eq_true q17; obtain ⟨Ao24, co24, eo24⟩ := Kd.V_slice HO112.out; subst eo24; obtain ⟨Ao25, co25, eo25⟩ := Kd.V_slice HO_10.out; subst eo25) | ((with_reducible refine gate_callee (f := 94) rfl ?_); refine zG (some 46) Try.func94 #[.int .i64 a0, .slice Ao24 t110.length co24, .slice Ao25 t107.length co25, .slice A3 l3.length c3] ?_; (with_reducible refine (fp_MulMod.calls k2 a0 _ _ t110 _ _ t107 _ _ l3 t113 _ ?side1 ?side2 ?side3 ?side4 ?side5 ?side6 A21.out).mono ?_); (case side1 => exact zC ((Kd.V_reads' HO112.out).2.2)); (case side2 => exact (Kd.V_reads' HO112.out).2.1); (case side3 => exact zC ((Kd.V_reads' HO_10.out).2.2)); (case side4 => exact (Kd.V_reads' HO_10.out).2.1); (case side5 => exact zC ((Kd.C_below HR3.out HB.out))); (case side6 => exact HC3.out); rintro e w26 ⟨v114, rfl, ho0, hb⟩; refine ⟨_, rfl, ?_⟩; replace HO_9 := zVb HO_9 hb; replace HO_10 := zVb HO_10 hb; replace HO112 := zVb HO112 hb; have HO115 := Aside0.mk (Kd.V_lower (Kd.V_mono (ok' := fun k_ => (w.heap.size ≤ k_)) ho0 (fun k_ hk_ => (Nat.le_trans (zS HB) hk_))) (zS HB)); replace HB := zBb HB hb; (try clear hb); (try clear ho0)))
     go_roundg k2
     case measure => have := HK1.out; have := HK2.out; omega
     case rel => exact ⟨(t113), (wrap64 (x12_2 - 1)), zX, H', ⟨by have := HK1.out; have := HK2.out; omega⟩, ⟨zV HO115.out⟩, ⟨zV HO_10.out⟩, ⟨zT⟩⟩
end Go.Proofs.Ytalnaafmonmlmaa.Q
end
section
namespace Go.Proofs.Ytalnaafmonmlmaa.Q
open Go.RowKit Go.Proofs.YtalnaafmonmlmaaW.PrintWords Go.Proofs.YtalnaafmonmlmaaW.PrintLast Go.Proofs.YtalnaafmonmlmaaW.PrintMore
attribute [local go_sem] max2_int min2_int max_two min_two max_three min_three max_four min_four
set_option linter.unusedVariables false
set_option linter.unusedSimpArgs false
set_option maxHeartbeats 8000000
set_option maxRecDepth 100000
mutual
def galoisref01_pack.l0 : Nat → List Int → List Int → Int → Option (ByteArray)
 | 0, _, _, _ => none
 | k + 1, x0, x3, x4 => if x4 ≥ 0 then (galoisref01_pack.l1 k x0 x3 x4 24) else (some (strOfNums x3))
def galoisref01_pack.l1 : Nat → List Int → List Int → Int → Int → Option (ByteArray)
 | 0, _, _, _, _ => none
 | k + 1, x0, x3, x4, x5 => if x5 ≥ 0 then (if 0 ≤ x4 then (if x4 < (x0.length : Int) then (if 0 ≤ x5 then (if (x3.length : Int) > 0 then (if x3.length < 140737488355328 then (galoisref01_pack.l1 k x0 (x3 ++ [(shr .u64 (rd x0 x4) x5) % 256]) x4 (wrap64 (x5 - 8))) else (none)) else (if ((shr .u64 (rd x0 x4) x5) % 256) > 0 then (if x3.length < 140737488355328 then (galoisref01_pack.l1 k x0 (x3 ++ [(shr .u64 (rd x0 x4) x5) % 256]) x4 (wrap64 (x5 - 8))) else (none)) else (galoisref01_pack.l1 k x0 x3 x4 (wrap64 (x5 - 8))))) else (none)) else (none)) else (none)) else (galoisref01_pack.l0 k x0 x3 (wrap64 (x4 - 1)))
end
def galoisref01_pack.f (k : Nat) (l0 : List Int) : Option (ByteArray) := galoisref01_pack.l0 k l0 ([] : List Int) (wrap64 ((l0.length : Int) - 1))
theorem galoisref01_pack.mono_l : ∀ k, (∀ y0 y1 y2, LeO (galoisref01_pack.l0 k y0 y1 y2) (galoisref01_pack.l0 (k + 1) y0 y1 y2)) ∧ (∀ y0 y1 y2 y3, LeO (galoisref01_pack.l1 k y0 y1 y2 y3) (galoisref01_pack.l1 (k + 1) y0 y1 y2 y3))
 | 0 => ⟨fun _ _ _ r h => by simp [galoisref01_pack.l0] at h, fun _ _ _ _ r h => by simp [galoisref01_pack.l1] at h⟩
 | k + 1 => by
  obtain ⟨ih0, ih1⟩ := galoisref01_pack.mono_l k
  refine ⟨?_, ?_⟩
  ·intro y0 y1 y2
   unfold galoisref01_pack.l0
   with_reducible repeat' first | exact ih0 _ _ _ | exact ih1 _ _ _ _ | exact LeO.refl _ | exact LeO.none _ | refine LeO.ite ?_ ?_ | refine LeO.bind ?_ (fun _ => ?_)
  intro y0 y1 y2 y3
  unfold galoisref01_pack.l1
  with_reducible repeat' first | exact ih0 _ _ _ | exact ih1 _ _ _ _ | exact LeO.refl _ | exact LeO.none _ | refine LeO.ite ?_ ?_ | refine LeO.bind ?_ (fun _ => ?_)
theorem galoisref01_pack.mono : ∀ a0 k, LeO (galoisref01_pack.f k a0) (galoisref01_pack.f (k + 1) a0) := by
 intro a0 k
 obtain ⟨ih0, ih1⟩ := galoisref01_pack.mono_l k
 unfold galoisref01_pack.f
 with_reducible repeat' first | exact ih0 _ _ _ | exact ih1 _ _ _ _ | exact LeO.refl _ | exact LeO.none _ | refine LeO.ite ?_ ?_ | refine LeO.bind ?_ (fun _ => ?_)
theorem galoisref01_pack.calls (k : Nat) (A0 : Option Addr) (c0 : Nat) (l0 : List Int) (r : ByteArray) (w : World) (hr0 : Kd.C (Kd.int .u64) w A0 l0.length l0) (hc0 : l0.length ≤ c0) (h : galoisref01_pack.f k l0 = some r) :
  Calls Try.prog 100 #[.slice A0 l0.length c0] w fun e w' => e = .returned (.string r) ∧ Below w.heap.size w w' := by
 have HR0 := Aside0.mk hr0
 have HC0 := Aside0.mk hc0
 clear hr0 hc0
 have HB := Aside0.mk (Below.refl w.heap.size w)
 have H := h; clear h; unfold galoisref01_pack.f at H
 have H' := Aside0.mk H
 clear H
 go_enter Try.func100, Try.ntmps100
 go_wp2
 go_loopg [3, 4] k (fun kq v3 v4 w' => ∃ (x3_1 : List Int) (x4_1 : Int), v4 = .int .i64 x4_1 ∧ Aside0 (galoisref01_pack.l0 kq l0 x3_1 x4_1 = some r) ∧ Aside0 (kq ≤ k) ∧ Aside0 (Kd.R (Kd.int .u8) 5 w' w.heap.size (fun _ => True) v3 x3_1) ∧ Aside0 (Below w.heap.size w w'))
 case atStart => exact ⟨(([] : List Int)), (wrap64 ((l0.length : Int) - 1)), zX, H', ⟨Nat.le_refl _⟩, ⟨by first | exact Kd.R_nil _ _ _ _ _ | exact Kd.N_nil _ _ _ _ _ | exact Kd.V_nil _ _ _ _ _ | exact Kd.Q_nil _ _ _ _ _ | exact Kd.S_nil _ _ _ _ _⟩, ⟨zT⟩⟩
 case round =>
  clear H'
  try clear c1
  obtain ⟨x3_1, x4_1, rfl, HA, HK1, HO_3, HB⟩ := hrel
  cases gk with
  | zero => exact absurd HA.out (by simp [galoisref01_pack.l0])
  | succ k1 =>
   have H := HA.out
   clear HA
   simp only [galoisref01_pack.l0] at H
   by_cases c2 : x4_1 ≥ 0
   rotate_left
   ·rw [if_neg c2] at H
    have c2b0 := decide_eq_false c2; clear c2
    obtain rfl := Option.some.inj H
    have hcv17 := own_string (P := Try.prog) Try.underlying112 Try.underlying5 Try.underlying9 (Kd.own_of_R HO_3.out)
    go_wp2
    go_ret
    exact ⟨zQ, zT⟩
   rw [if_pos c2] at H
   have c2b0 := decide_eq_true c2; clear c2
   have H' := Aside0.mk H
   clear H
   go_wp2
   go_loopg [3, 5] k1 (fun kq v3 v5 w' => ∃ (x3_2 : List Int) (x5_2 : Int), v5 = .int .i64 x5_2 ∧ Aside0 (galoisref01_pack.l1 kq l0 x3_2 x4_1 x5_2 = some r) ∧ Aside0 (kq ≤ k1) ∧ Aside0 (Kd.R (Kd.int .u8) 5 w' w.heap.size (fun _ => True) v3 x3_2) ∧ Aside0 (Below w.heap.size w w'))
   case atStart => exact ⟨(x3_1), (24), zX, H', ⟨Nat.le_refl _⟩, ⟨zR HO_3.out⟩, ⟨zT⟩⟩
   case round =>
    clear H'
    try clear c1; try clear c2; try clear c2b0; try clear p2
    obtain ⟨x3_2, x5_2, rfl, HA, HK2, HO_3, HB⟩ := hrel
    cases gk with
    | zero => exact absurd HA.out (by simp [galoisref01_pack.l1])
    | succ k2 =>
     have H := HA.out
     clear HA
     simp only [galoisref01_pack.l1] at H
     by_cases c3 : x5_2 ≥ 0
     rotate_left
     ·rw [if_neg c3] at H
      have c3b0 := decide_eq_false c3; clear c3
      have H' := Aside0.mk H
      clear H
      go_wp2
      go_roundg k2
      case measure => have := HK1.out; have := HK2.out; omega
      case rel => exact ⟨(x3_2), (wrap64 (x4_1 - 1)), zX, H', ⟨by have := HK1.out; have := HK2.out; omega⟩, ⟨zR HO_3.out⟩, ⟨zT⟩⟩
     rw [if_pos c3] at H
     have c3b0 := decide_eq_true c3; clear c3
     by_cases c4 : 0 ≤ x4_1
     rotate_left
     ·rw [if_neg c4] at H
      exact absurd H (by simp)
     rw [if_pos c4] at H
     have c4b0 := decide_eq_true c4; clear c4
     by_cases c5 : x4_1 < (l0.length : Int)
     rotate_left
     ·rw [if_neg c5] at H
      exact absurd H (by simp)
     rw [if_pos c5] at H
     have c5b0 := decide_eq_true c5; clear c5
     by_cases c6 : 0 ≤ x5_2
     rotate_left
     ·rw [if_neg c6] at H
      exact absurd H (by simp)
     rw [if_pos c6] at H
     have c6b0 := eq_true c6; have c6b1 := decide_eq_true c6; clear c6
     obtain ⟨ji7, hji7⟩ : ∃ j_ : Int, (shr .u64 (rd l0 x4_1) x5_2) = j_ := ⟨_, rfl⟩
     first | rw [hji7] at H | simp only [hji7] at H
     have hji7_ : ((rd l0 x4_1) / 2 ^ min x5_2.toNat 64) = ji7 := hji7
     have hji7z : x5_2 ≤ 64 → ((rd l0 x4_1) / 2 ^ x5_2.toNat) = ji7 := shr_small hji7
     by_cases c8 : (x3_2.length : Int) > 0
     ·rw [if_pos c8] at H
      have c8b0 : decide (0 < (x3_2.length : Int)) = true := decide_eq_true c8
      have c8b1 : decide (0 < x3_2.length) = true := decide_eq_true (by omega)
      clear c8
      by_cases c9 : x3_2.length < 140737488355328
      rotate_left
      ·rw [if_neg c9] at H
       exact absurd H (by simp)
      rw [if_pos c9] at H
      have LMc9 := Aside0.mk c9
      clear c9
      obtain ⟨y102, hy102⟩ : ∃ y_ : List Int, y_ = (x3_2 ++ [(ji7) % 256]) := ⟨_, rfl⟩
      replace H : (galoisref01_pack.l1 k2 l0 y102 x4_1 (wrap64 (x5_2 - 8))) = some r := by first | (rw [hy102]; with_reducible exact H) | (have H2_ := (Option.bind_some _ _).symm.trans H; rw [hy102]; with_reducible exact H2_) | (have H2_ := (Option.bind_some _ _).symm.trans H; with_reducible exact H2_) | with_reducible exact H | (rw [hy102]; exact H) | exact H
      have Ny102 := Aside0.mk hy102
      clear hy102
      have H' := Aside0.mk H
      clear H
      obtain ⟨p101, q101, ad101, e101, hx101_0⟩ := zI (HR0.out) (x4_1) zD zD
      cases e101
      replace hx101_0 := (HB.out.cell (World.block_lt_of_cell? w _ hx101_0)).trans hx101_0
      obtain ⟨Ao10, co10, eo10⟩ := Kd.R_slice HO_3.out
      subst eo10
      go_wp2_with (first | ((with_reducible refine gate_builtin (b := .append) (xs := #[.tmp 32, .tmp 34]) rfl ?_); at_builtin; refine Kd.R_append (Kd.int .u8) (w0 := w) w.heap.size rfl (.tmp 32) (.tmp 34) 112 5 (.int .u8 0) 1 rfl Try.underlying112 info5 rfl (by decide) (by omega) (.slice Ao10 x3_2.length co10) x3_2 ((ji7) % 256) [.int .u8 ((ji7) % 256)] (fun _ => True) (fun _ => False) rfl rfl ?aP (fun _ hk => hk.elim) ?aF ?aO ?aB ?aS ?aL ?_; (case aP => exact rfl); (case aB => exact (zT)); (case aF => exact (fun _ _ => trivial)); (case aO => exact (zR HO_3.out)); (case aS => exact (zS HB)); (case aL => have := LMc9.out; omega); intro v103 w11 ho hb hg hat; rw [← Ny102.out] at ho; replace HB := Aside0.mk (hb); have HO104 := Aside0.mk (ho); clear HO_3; clear ho hb hg hat))
      go_roundg k2
      case measure => have := HK1.out; have := HK2.out; omega
      case rel => exact ⟨(y102), (wrap64 (x5_2 - 8)), zX, H', ⟨by have := HK1.out; have := HK2.out; omega⟩, ⟨zR HO104.out⟩, ⟨zT⟩⟩
     rw [if_neg c8] at H
     have c8b0 : decide (0 < (x3_2.length : Int)) = false := decide_eq_false c8
     have c8b1 : decide (0 < x3_2.length) = false := decide_eq_false (by omega)
     clear c8
     by_cases c12 : ((ji7) % 256) > 0
     rotate_left
     ·rw [if_neg c12] at H
      have c12b0 := decide_eq_false c12; clear c12
      have H' := Aside0.mk H
      clear H
      obtain ⟨p101, q101, ad101, e101, hx101_0⟩ := zI (HR0.out) (x4_1) zD zD
      cases e101
      replace hx101_0 := (HB.out.cell (World.block_lt_of_cell? w _ hx101_0)).trans hx101_0
      obtain ⟨Ao16, co16, eo16⟩ := Kd.R_slice HO_3.out
      subst eo16
      go_wp2
      go_roundg k2
      case measure => have := HK1.out; have := HK2.out; omega
      case rel => exact ⟨(x3_2), (wrap64 (x5_2 - 8)), zX, H', ⟨by have := HK1.out; have := HK2.out; omega⟩, ⟨zR HO_3.out⟩, ⟨zT⟩⟩
     rw [if_pos c12] at H
     have c12b0 := decide_eq_true c12; clear c12
     by_cases c13 : x3_2.length < 140737488355328
     rotate_left
     ·rw [if_neg c13] at H
      exact absurd H (by simp)
     rw [if_pos c13] at H
     have LMc13 := Aside0.mk c13
     clear c13
     obtain ⟨y105, hy105⟩ : ∃ y_ : List Int, y_ = (x3_2 ++ [(ji7) % 256]) := ⟨_, rfl⟩
     replace H : (galoisref01_pack.l1 k2 l0 y105 x4_1 (wrap64 (x5_2 - 8))) = some r := by first | (rw [hy105]; with_reducible exact H) | (have H2_ := (Option.bind_some _ _).symm.trans H; rw [hy105]; with_reducible exact H2_) | (have H2_ := (Option.bind_some _ _).symm.trans H; with_reducible exact H2_) | with_reducible exact H | (rw [hy105]; exact H) | exact H
     have Ny105 := Aside0.mk hy105
     clear hy105
     have H' := Aside0.mk H
     clear H
     obtain ⟨p101, q101, ad101, e101, hx101_0⟩ := zI (HR0.out) (x4_1) zD zD
     cases e101
     replace hx101_0 := (HB.out.cell (World.block_lt_of_cell? w _ hx101_0)).trans hx101_0
     obtain ⟨Ao14, co14, eo14⟩ := Kd.R_slice HO_3.out
     subst eo14
     go_wp2_with (first | ((with_reducible refine gate_builtin (b := .append) (xs := #[.tmp 32, .tmp 34]) rfl ?_); at_builtin; refine Kd.R_append (Kd.int .u8) (w0 := w) w.heap.size rfl (.tmp 32) (.tmp 34) 112 5 (.int .u8 0) 1 rfl Try.underlying112 info5 rfl (by decide) (by omega) (.slice Ao14 x3_2.length co14) x3_2 ((ji7) % 256) [.int .u8 ((ji7) % 256)] (fun _ => True) (fun _ => False) rfl rfl ?aP (fun _ hk => hk.elim) ?aF ?aO ?aB ?aS ?aL ?_; (case aP => exact rfl); (case aB => exact (zT)); (case aF => exact (fun _ _ => trivial)); (case aO => exact (zR HO_3.out)); (case aS => exact (zS HB)); (case aL => have := LMc13.out; omega); intro v106 w15 ho hb hg hat; rw [← Ny105.out] at ho; replace HB := Aside0.mk (hb); have HO107 := Aside0.mk (ho); clear HO_3; clear ho hb hg hat))
     go_roundg k2
     case measure => have := HK1.out; have := HK2.out; omega
     case rel => exact ⟨(y105), (wrap64 (x5_2 - 8)), zX, H', ⟨by have := HK1.out; have := HK2.out; omega⟩, ⟨zR HO107.out⟩, ⟨zT⟩⟩
end Go.Proofs.Ytalnaafmonmlmaa.Q
end
section
namespace Go.Proofs.Ytalnaafmonmlmaa.Q
open Go.RowKit Go.Proofs.YtalnaafmonmlmaaW.PrintWords Go.Proofs.YtalnaafmonmlmaaW.PrintLast Go.Proofs.YtalnaafmonmlmaaW.PrintMore
attribute [local go_sem] max2_int min2_int max_two min_two max_three min_three max_four min_four
set_option linter.unusedVariables false
set_option linter.unusedSimpArgs false
set_option maxHeartbeats 8000000
set_option maxRecDepth 100000
def fp_Monic.f (k : Nat) (a0 : Int) (l1 : List Int) : Option (List Int) := if (l1.length : Int) = 0 then (some ([] : List Int)) else (if 0 ≤ (wrap64 ((l1.length : Int) - 1)) then (if (wrap64 ((l1.length : Int) - 1)) < (l1.length : Int) then ((fp_Inv.f k a0 (rd l1 (wrap64 ((l1.length : Int) - 1)))).bind fun t102 => ((fp_Scale.f k a0 l1 t102).bind fun t103 => (some t103))) else (none)) else (none))
theorem fp_Monic.mono : ∀ a0 a1 k, LeO (fp_Monic.f k a0 a1) (fp_Monic.f (k + 1) a0 a1) := by
 intro a0 a1 k
 unfold fp_Monic.f
 with_reducible repeat' first | exact fp_Inv.mono _ _ _ | exact fp_Scale.mono _ _ _ _ | exact LeO.refl _ | exact LeO.none _ | refine LeO.ite ?_ ?_ | refine LeO.bind ?_ (fun _ => ?_)
theorem fp_Monic.calls (k : Nat) (a0 : Int) (A1 : Option Addr) (c1 : Nat) (l1 : List Int) (r : List Int) (w : World) (hr1 : Kd.C (Kd.int .i64) w A1 l1.length l1) (hc1 : l1.length ≤ c1) (h : fp_Monic.f k a0 l1 = some r) :
  Calls Try.prog 107 #[.int .i64 a0, .slice A1 l1.length c1] w fun e w' => ∃ v0_ : Value, e = .returned (v0_) ∧ Kd.V (Kd.int .i64) 3 w' w.heap.size (fun k_ => (w.heap.size ≤ k_)) v0_ r ∧ Below w.heap.size w w' := by
 have HR1 := Aside0.mk hr1
 have HC1 := Aside0.mk hc1
 clear hr1 hc1
 have HB := Aside0.mk (Below.refl w.heap.size w)
 have H := h; clear h; unfold fp_Monic.f at H
 by_cases c3 : (l1.length : Int) = 0
 ·rw [if_pos c3] at H
  obtain ⟨c3b0, c3b1⟩ := zE c3; clear c3
  obtain rfl := Option.some.inj H
  go_enter Try.func107, Try.ntmps107
  go_wp2
  go_ret
  exact ⟨_, zQ, zL, zT⟩
 rw [if_neg c3] at H
 obtain ⟨c3b0, c3b1⟩ := zU c3
 have c3b2 : ¬ (l1 = []) := fun h_ => c3 (by rw [h_]; rfl)
 obtain ⟨ji4, hji4⟩ : ∃ j_ : Int, (wrap64 ((l1.length : Int) - 1)) = j_ := ⟨_, rfl⟩
 first | rw [hji4] at H | simp only [hji4] at H
 have hji4w : (IntKind.i64.wrap ((l1.length : Int) - 1)) = ji4 := (i64_w _).trans hji4
 by_cases c5 : 0 ≤ (ji4)
 rotate_left
 ·rw [if_neg c5] at H
  exact absurd H (by simp)
 rw [if_pos c5] at H
 have c5b0 := decide_eq_true c5; clear c5
 by_cases c6 : (ji4) < (l1.length : Int)
 rotate_left
 ·rw [if_neg c6] at H
  exact absurd H (by simp)
 rw [if_pos c6] at H
 have c6b0 := decide_eq_true c6; clear c6
 obtain ⟨t102, A7, H⟩ := zO H
 obtain ⟨t103, A8, H⟩ := zO H
 obtain rfl := Option.some.inj H
 obtain ⟨p101, q101, ad101, e101, hx101_0⟩ := zI (HR1.out) ((ji4)) zD zD
 cases e101
 go_enter Try.func107, Try.ntmps107
 go_wp2_with (first | ((with_reducible refine gate_callee (f := 114) rfl ?_); refine zH (some 17) Try.func114 #[.int .i64 a0, .int .i64 (rd l1 (ji4))] rfl (by (try simp only [List.map_toArray, List.map_cons, List.map_nil]); first | done | (simp only [hji4]; rfl) | rfl | (simp only [List.length_drop, List.length_take]; rfl)) ?_; (with_reducible refine (fp_Inv.calls k a0 (rd l1 (ji4)) t102 _ A7.out).mono ?_); rintro e w' ⟨rfl, ⟨nd, rfl⟩⟩; refine ⟨_, rfl, ?_⟩) | ((with_reducible refine gate_callee (f := 57) rfl ?_); refine zG (some 18) Try.func57 #[.int .i64 a0, .slice (some ad101) l1.length c1, .int .i64 t102] ?_; (with_reducible refine (fp_Scale.calls k a0 _ _ l1 t102 t103 _ ?side1 ?side2 A8.out).mono ?_); (case side1 => exact zC (HR1.out)); (case side2 => exact HC1.out); rintro e w9 ⟨v104, rfl, ho0, hb⟩; refine ⟨_, rfl, ?_⟩; have HO105 := Aside0.mk (Kd.V_lower (Kd.V_mono (ok' := fun k_ => (w.heap.size ≤ k_)) ho0 (fun k_ hk_ => (Nat.le_trans (zS HB) hk_))) (zS HB)); replace HB := zBb HB hb; (try clear hb); (try clear ho0)))
 go_ret
 exact ⟨_, by first | rfl | (simp [errW_none, errW_some] <;> rfl) | (simp only [← hji4]; first | rfl | (simp [errW_none, errW_some] <;> rfl)) | (simp [*, errW_none, errW_some] <;> rfl), zV HO105.out, zT⟩
end Go.Proofs.Ytalnaafmonmlmaa.Q
end
section
namespace Go.Proofs.Ytalnaafmonmlmaa.Q
open Go.RowKit Go.Proofs.YtalnaafmonmlmaaW.PrintWords Go.Proofs.YtalnaafmonmlmaaW.PrintLast Go.Proofs.YtalnaafmonmlmaaW.PrintMore
attribute [local go_sem] max2_int min2_int max_two min_two max_three min_three max_four min_four
set_option linter.unusedVariables false
set_option linter.unusedSimpArgs false
set_option maxHeartbeats 8000000
set_option maxRecDepth 100000
def galoisref09_Lead.f (l0 : List Int) : Option (Int) := if (l0.length : Int) = 0 then (some 0) else (if 0 ≤ (wrap64 ((l0.length : Int) - 1)) then (if (wrap64 ((l0.length : Int) - 1)) < (l0.length : Int) then (some (rd l0 (wrap64 ((l0.length : Int) - 1)))) else (none)) else (none))
theorem galoisref09_Lead.calls (A0 : Option Addr) (c0 : Nat) (l0 : List Int) (r : Int) (w : World) (hr0 : Kd.C (Kd.int .i64) w A0 l0.length l0) (hc0 : l0.length ≤ c0) (h : galoisref09_Lead.f l0 = some r) :
  Calls Try.prog 63 #[.slice A0 l0.length c0] w fun e w' => e = .returned (.int .i64 r) ∧ Drawn0 w w' := by
 have HR0 := Aside0.mk hr0
 have HC0 := Aside0.mk hc0
 clear hr0 hc0
 have H := h; clear h; unfold galoisref09_Lead.f at H
 by_cases c2 : (l0.length : Int) = 0
 ·rw [if_pos c2] at H
  obtain ⟨c2b0, c2b1⟩ := zE c2; clear c2
  obtain rfl := Option.some.inj H
  go_enter Try.func63, Try.ntmps63
  go_wp2
  go_ret
  exact ⟨by first | rfl | (simp; done) | (simp [*]; done), by repeat (first | exact Drawn0.refl _ | apply Drawn0.step)⟩
 rw [if_neg c2] at H
 obtain ⟨c2b0, c2b1⟩ := zU c2
 have c2b2 : ¬ (l0 = []) := fun h_ => c2 (by rw [h_]; rfl)
 obtain ⟨ji3, hji3⟩ : ∃ j_ : Int, (wrap64 ((l0.length : Int) - 1)) = j_ := ⟨_, rfl⟩
 first | rw [hji3] at H | simp only [hji3] at H
 have hji3w : (IntKind.i64.wrap ((l0.length : Int) - 1)) = ji3 := (i64_w _).trans hji3
 by_cases c4 : 0 ≤ (ji3)
 rotate_left
 ·rw [if_neg c4] at H
  exact absurd H (by simp)
 rw [if_pos c4] at H
 have c4b0 := decide_eq_true c4; clear c4
 by_cases c5 : (ji3) < (l0.length : Int)
 rotate_left
 ·rw [if_neg c5] at H
  exact absurd H (by simp)
 rw [if_pos c5] at H
 have c5b0 := decide_eq_true c5; clear c5
 obtain rfl := Option.some.inj H
 obtain ⟨p101, q101, ad101, e101, hx101_0⟩ := zI (HR0.out) ((ji3)) zD zD
 cases e101
 go_enter Try.func63, Try.ntmps63
 go_wp2
 go_ret
 exact ⟨by first | rfl | (simp; done) | (simp only [← hji3] <;> (first | rfl | simp)) | (simp [*]; done), by repeat (first | exact Drawn0.refl _ | apply Drawn0.step)⟩
end Go.Proofs.Ytalnaafmonmlmaa.Q
end
section
namespace Go.Proofs.Ytalnaafmonmlmaa.Q
open Go.RowKit Go.Proofs.YtalnaafmonmlmaaW.PrintWords Go.Proofs.YtalnaafmonmlmaaW.PrintLast Go.Proofs.YtalnaafmonmlmaaW.PrintMore
attribute [local go_sem] max2_int min2_int max_two min_two max_three min_three max_four min_four
set_option linter.unusedVariables false
set_option linter.unusedSimpArgs false
set_option maxHeartbeats 8000000
set_option maxRecDepth 100000
def galoisref09_Monic.f (k : Nat) (a0 : Int) (l1 : List Int) : Option (List Int) := if (l1.length : Int) = 0 then (some ([] : List Int)) else ((galoisref09_Lead.f l1).bind fun t101 => ((galoisref04_Inverse.f k t101 a0).bind fun t102 => ((galoisref09_Scale.f k a0 l1 t102).bind fun t103 => (some t103))))
theorem galoisref09_Monic.mono : ∀ a0 a1 k, LeO (galoisref09_Monic.f k a0 a1) (galoisref09_Monic.f (k + 1) a0 a1) := by
 intro a0 a1 k
 unfold galoisref09_Monic.f
 with_reducible repeat' first | exact galoisref04_Inverse.mono _ _ _ | exact galoisref09_Scale.mono _ _ _ _ | exact LeO.refl _ | exact LeO.none _ | refine LeO.ite ?_ ?_ | refine LeO.bind ?_ (fun _ => ?_)
theorem galoisref09_Monic.calls (k : Nat) (a0 : Int) (A1 : Option Addr) (c1 : Nat) (l1 : List Int) (r : List Int) (w : World) (hr1 : Kd.C (Kd.int .i64) w A1 l1.length l1) (hc1 : l1.length ≤ c1) (h : galoisref09_Monic.f k a0 l1 = some r) :
  Calls Try.prog 109 #[.int .i64 a0, .slice A1 l1.length c1] w fun e w' => ∃ v0_ : Value, e = .returned (v0_) ∧ Kd.V (Kd.int .i64) 3 w' w.heap.size (fun k_ => (w.heap.size ≤ k_)) v0_ r ∧ Below w.heap.size w w' := by
 have HR1 := Aside0.mk hr1
 have HC1 := Aside0.mk hc1
 clear hr1 hc1
 have HB := Aside0.mk (Below.refl w.heap.size w)
 have H := h; clear h; unfold galoisref09_Monic.f at H
 by_cases c3 : (l1.length : Int) = 0
 ·rw [if_pos c3] at H
  obtain ⟨c3b0, c3b1⟩ := zE c3; clear c3
  obtain rfl := Option.some.inj H
  go_enter Try.func109, Try.ntmps109
  go_wp2
  go_ret
  exact ⟨_, zQ, zL, zT⟩
 rw [if_neg c3] at H
 obtain ⟨c3b0, c3b1⟩ := zU c3
 have c3b2 : ¬ (l1 = []) := fun h_ => c3 (by rw [h_]; rfl)
 obtain ⟨t101, A4, H⟩ := zO H
 obtain ⟨t102, A5, H⟩ := zO H
 obtain ⟨t103, A6, H⟩ := zO H
 obtain rfl := Option.some.inj H
 go_enter Try.func109, Try.ntmps109
 go_wp2_with (first | ((with_reducible refine gate_callee (f := 63) rfl ?_); refine zG (some 11) Try.func63 #[.slice A1 l1.length c1] ?_; (with_reducible refine (galoisref09_Lead.calls _ _ l1 t101 _ ?side1 ?side2 A4.out).mono ?_); (case side1 => exact zC (HR1.out)); (case side2 => exact HC1.out); rintro e w' ⟨rfl, ⟨nd, rfl⟩⟩; refine ⟨_, rfl, ?_⟩) | ((with_reducible refine gate_callee (f := 120) rfl ?_); refine zG (some 13) Try.func120 #[.int .i64 t101, .int .i64 a0] ?_; (with_reducible refine (galoisref04_Inverse.calls k t101 a0 t102 _ A5.out).mono ?_); rintro e w' ⟨rfl, ⟨nd, rfl⟩⟩; refine ⟨_, rfl, ?_⟩) | ((with_reducible refine gate_callee (f := 96) rfl ?_); refine zG (some 14) Try.func96 #[.int .i64 a0, .slice A1 l1.length c1, .int .i64 t102] ?_; (with_reducible refine (galoisref09_Scale.calls k a0 _ _ l1 t102 t103 _ ?side1 ?side2 A6.out).mono ?_); (case side1 => exact zC (HR1.out)); (case side2 => exact HC1.out); rintro e w7 ⟨v104, rfl, ho0, hb⟩; refine ⟨_, rfl, ?_⟩; have HO105 := Aside0.mk (Kd.V_lower (Kd.V_mono (ok' := fun k_ => (w.heap.size ≤ k_)) ho0 (fun k_ hk_ => (Nat.le_trans (zS HB) hk_))) (zS HB)); replace HB := zBb HB hb; (try clear hb); (try clear ho0)))
 go_ret
 exact ⟨_, zQ, zV HO105.out, zT⟩
end Go.Proofs.Ytalnaafmonmlmaa.Q
end
section
namespace Go.Proofs.Ytalnaafmonmlmaa.Q
open Go.RowKit Go.Proofs.YtalnaafmonmlmaaW.PrintWords Go.Proofs.YtalnaafmonmlmaaW.PrintLast Go.Proofs.YtalnaafmonmlmaaW.PrintMore
attribute [local go_sem] max2_int min2_int max_two min_two max_three min_three max_four min_four
set_option linter.unusedVariables false
set_option linter.unusedSimpArgs false
set_option maxHeartbeats 8000000
set_option maxRecDepth 100000
def galoisref01_Of.f (k : Nat) (a0 : Int) : Option (ByteArray) := (galoisref01_pack.f k (([Go.bits .and .u64 a0 4294967295, a0 / 4294967296] : List Int))).bind fun t104 => (some t104)
theorem galoisref01_Of.mono : ∀ a0 k, LeO (galoisref01_Of.f k a0) (galoisref01_Of.f (k + 1) a0) := by
 intro a0 k
 unfold galoisref01_Of.f
 with_reducible repeat' first | exact galoisref01_pack.mono _ _ | exact LeO.refl _ | exact LeO.none _ | refine LeO.ite ?_ ?_ | refine LeO.bind ?_ (fun _ => ?_)
theorem galoisref01_Of.calls (k : Nat) (a0 : Int) (r : ByteArray) (w : World) (h : galoisref01_Of.f k a0 = some r) :
  Calls Try.prog 70 #[.int .u64 a0] w fun e w' => e = .returned (.string r) ∧ Below w.heap.size w w' := by
 have HB := Aside0.mk (Below.refl w.heap.size w)
 have H := h; clear h; unfold galoisref01_Of.f at H
 obtain ⟨y101, Ny101⟩ := zA ((([Go.bits .and .u64 a0 4294967295, a0 / 4294967296] : List Int)) : List Int); rw [← Ny101.out] at H
 obtain ⟨t104, A2, H⟩ := zO H
 obtain rfl := Option.some.inj H
 go_enter Try.func70, Try.ntmps70
 go_wp2_with (first | ((with_reducible refine gate_dst (N := 7) rfl ?_); refine Kd.R_lit (Kd.int .u64) _ 84 ?hg (N := 7) ?hd (xs := ([Go.bits .and .u64 a0 4294967295, a0 / 4294967296] : List Int)) (inner := [.int .u64 (Go.bits .and .u64 a0 4294967295), .int .u64 (a0 / 4294967296)]) (ok := fun _ => True) (okp := fun _ => True) ?hr ?hp (fun _ hk => hk) trivial (Below.refl _ _) (Nat.le_refl _) (by simp) ?_; (case hd => rfl); (case hg => rfl); (case hr => go_simp <;> rfl); (case hp => exact (Reps.one (show Kd.M (Kd.int .u64) _ _ _ (Go.bits .and .u64 a0 4294967295) [.int .u64 (Go.bits .and .u64 a0 4294967295)] from rfl) (Reps.one (show Kd.M (Kd.int .u64) _ _ _ (a0 / 4294967296) [.int .u64 (a0 / 4294967296)] from rfl) (Reps.none _ _)))); intro v102 w3 ho4 hb hg_ hnew_; clear hg_ hnew_; (first | rw [← Ny101.out] at ho4 | (simp only [Int.reduceToNat] at ho4; rw [← Ny101.out] at ho4)); have HO103 := Aside0.mk (Kd.R_lower ho4 (zS HB)); replace HB := zBb HB hb; clear hb ho4; obtain ⟨Ao5, co5, eo5⟩ := Kd.R_slice HO103.out; subst eo5) | ((with_reducible refine gate_callee (f := 100) rfl ?_); refine zG (some 8) Try.func100 #[.slice Ao5 y101.length co5] ?_; (with_reducible refine (galoisref01_pack.calls k _ _ y101 t104 _ ?side1 ?side2 A2.out).mono ?_); (case side1 => exact zC ((Kd.R_reads' HO103.out).2.2)); (case side2 => exact (Kd.R_reads' HO103.out).2.1); rintro e w6 ⟨rfl, hb⟩; refine ⟨_, rfl, ?_⟩; replace HO103 := zRb HO103 hb; replace HB := zBb HB hb; (try clear hb)))
 go_ret
 exact ⟨zQ, zT⟩
end Go.Proofs.Ytalnaafmonmlmaa.Q
end
section
namespace Go.Proofs.Ytalnaafmonmlmaa.Q
open Go.RowKit Go.Proofs.YtalnaafmonmlmaaW.PrintWords Go.Proofs.YtalnaafmonmlmaaW.PrintLast Go.Proofs.YtalnaafmonmlmaaW.PrintMore
attribute [local go_sem] max2_int min2_int max_two min_two max_three min_three max_four min_four
set_option linter.unusedVariables false
set_option linter.unusedSimpArgs false
set_option maxHeartbeats 8000000
set_option maxRecDepth 100000
def galoisref01_FromInt.f (k : Nat) (a0 : Int) : Option (ByteArray) := (galoisref01_Of.f k (IntKind.u64.wrap (a0))).bind fun t101 => (some t101)
theorem galoisref01_FromInt.mono : ∀ a0 k, LeO (galoisref01_FromInt.f k a0) (galoisref01_FromInt.f (k + 1) a0) := by
 intro a0 k
 unfold galoisref01_FromInt.f
 with_reducible repeat' first | exact galoisref01_Of.mono _ _ | exact LeO.refl _ | exact LeO.none _ | refine LeO.ite ?_ ?_ | refine LeO.bind ?_ (fun _ => ?_)
theorem galoisref01_FromInt.calls (k : Nat) (a0 : Int) (r : ByteArray) (w : World) (h : galoisref01_FromInt.f k a0 = some r) :
  Calls Try.prog 35 #[.int .i64 a0] w fun e w' => e = .returned (.string r) ∧ Below w.heap.size w w' := by
 have HB := Aside0.mk (Below.refl w.heap.size w)
 have H := h; clear h; unfold galoisref01_FromInt.f at H
 obtain ⟨t101, A2, H⟩ := zO H
 obtain rfl := Option.some.inj H
 go_enter Try.func35, Try.ntmps35
 go_wp2_with (first | ((with_reducible refine gate_callee (f := 70) rfl ?_); refine zG (some 5) Try.func70 #[.int .u64 (IntKind.u64.wrap (a0))] ?_; (with_reducible refine (galoisref01_Of.calls k (IntKind.u64.wrap (a0)) t101 _ A2.out).mono ?_); rintro e w3 ⟨rfl, hb⟩; refine ⟨_, rfl, ?_⟩; replace HB := zBb HB hb; (try clear hb)))
 go_ret
 exact ⟨zQ, zT⟩
end Go.Proofs.Ytalnaafmonmlmaa.Q
end
section
namespace Go.Proofs.Ytalnaafmonmlmaa.Q
open Go.RowKit Go.Proofs.YtalnaafmonmlmaaW.PrintWords Go.Proofs.YtalnaafmonmlmaaW.PrintLast Go.Proofs.YtalnaafmonmlmaaW.PrintMore
attribute [local go_sem] max2_int min2_int max_two min_two max_three min_three max_four min_four
set_option linter.unusedVariables false
set_option linter.unusedSimpArgs false
set_option maxHeartbeats 8000000
set_option maxRecDepth 100000
def fp_Power.f (k : Nat) (a0 : Int) (l1 : List Int) (l2 : List Int) : Option (List Int) := (fp_PowMod.f k a0 l1 (strOfNums (([(a0 / 256) % 256, (a0) % 256] : List Int))) l2).bind fun t104 => (some t104)
theorem fp_Power.mono : ∀ a0 a1 a2 k, LeO (fp_Power.f k a0 a1 a2) (fp_Power.f (k + 1) a0 a1 a2) := by
 intro a0 a1 a2 k
 unfold fp_Power.f
 with_reducible repeat' first | exact fp_PowMod.mono _ _ _ _ _ | exact LeO.refl _ | exact LeO.none _ | refine LeO.ite ?_ ?_ | refine LeO.bind ?_ (fun _ => ?_)
theorem fp_Power.calls (k : Nat) (a0 : Int) (A1 : Option Addr) (c1 : Nat) (l1 : List Int) (A2 : Option Addr) (c2 : Nat) (l2 : List Int) (r : List Int) (w : World) (hr1 : Kd.C (Kd.int .i64) w A1 l1.length l1) (hc1 : l1.length ≤ c1) (hr2 : Kd.C (Kd.int .i64) w A2 l2.length l2) (hc2 : l2.length ≤ c2) (h : fp_Power.f k a0 l1 l2 = some r) :
  Calls Try.prog 84 #[.int .i64 a0, .slice A1 l1.length c1, .slice A2 l2.length c2] w fun e w' => ∃ v0_ : Value, e = .returned (v0_) ∧ Kd.V (Kd.int .i64) 3 w' w.heap.size (fun k_ => (w.heap.size ≤ k_)) v0_ r ∧ Below w.heap.size w w' := by
 have HR1 := Aside0.mk hr1
 have HC1 := Aside0.mk hc1
 clear hr1 hc1
 have HR2 := Aside0.mk hr2
 have HC2 := Aside0.mk hc2
 clear hr2 hc2
 have HB := Aside0.mk (Below.refl w.heap.size w)
 have H := h; clear h; unfold fp_Power.f at H
 obtain ⟨y101, Ny101⟩ := zA ((([(a0 / 256) % 256, (a0) % 256] : List Int)) : List Int); rw [← Ny101.out] at H
 obtain ⟨t104, A4, H⟩ := zO H
 obtain rfl := Option.some.inj H
 go_enter Try.func84, Try.ntmps84
 go_wp2_with (first | ((with_reducible refine gate_dst (N := 14) rfl ?_); refine Kd.R_lit (Kd.int .u8) _ 5 ?hg (N := 14) ?hd (xs := ([(a0 / 256) % 256, (a0) % 256] : List Int)) (inner := [.int .u8 ((a0 / 256) % 256), .int .u8 ((a0) % 256)]) (ok := fun _ => True) (okp := fun _ => True) ?hr ?hp (fun _ hk => hk) trivial (Below.refl _ _) (Nat.le_refl _) (by simp) ?_; (case hd => rfl); (case hg => rfl); (case hr => go_simp <;> rfl); (case hp => exact (Reps.one (show Kd.M (Kd.int .u8) _ _ _ ((a0 / 256) % 256) [.int .u8 ((a0 / 256) % 256)] from rfl) (Reps.one (show Kd.M (Kd.int .u8) _ _ _ ((a0) % 256) [.int .u8 ((a0) % 256)] from rfl) (Reps.none _ _)))); intro v102 w5 ho6 hb hg_ hnew_; clear hg_ hnew_; (first | rw [← Ny101.out] at ho6 | (simp only [Int.reduceToNat] at ho6; rw [← Ny101.out] at ho6)); have HO103 := Aside0.mk (Kd.R_lower (Kd.R_newM (M := fun k_ => (w.heap.size ≤ k_)) ho6 (zS HB) (fun k_ h_ => h_)) (zS HB)); replace HB := zBb HB hb; clear hb ho6; have hcv7 := own_string (P := Try.prog) Try.underlying112 Try.underlying5 Try.underlying51 (Kd.own_of_R HO103.out)) | ((with_reducible refine gate_callee (f := 99) rfl ?_); refine zG (some 17) Try.func99 #[.int .i64 a0, .slice A1 l1.length c1, .string (strOfNums y101), .slice A2 l2.length c2] ?_; (with_reducible refine (fp_PowMod.calls k a0 _ _ l1 (strOfNums y101) _ _ l2 t104 _ ?side1 ?side2 ?side3 ?side4 A4.out).mono ?_); (case side1 => exact zC (Kd.C_below HR1.out HB.out)); (case side2 => exact HC1.out); (case side3 => exact zC (Kd.C_below HR2.out HB.out)); (case side4 => exact HC2.out); rintro e w8 ⟨v105, rfl, ho0, hb⟩; refine ⟨_, rfl, ?_⟩; have HO106 := Aside0.mk (Kd.V_lower (Kd.V_mono (ok' := fun k_ => (w.heap.size ≤ k_) ∧ some k_ ≠ (v102 : Value).ownBlock) ho0 (fun k_ hk_ => ⟨(Nat.le_trans (zS HB) hk_), (Kd.fresh' (Kd.R_lt (zR HO103.out)) k_ hk_)⟩)) (zS HB)); replace HO103 := zRb HO103 hb; replace HB := zBb HB hb; (try clear hb); (try clear ho0)))
 go_ret
 exact ⟨_, zQ, zV (Kd.V_mono HO106.out (fun _ hk => hk.1)), zT⟩
end Go.Proofs.Ytalnaafmonmlmaa.Q
end
section
namespace Go.Proofs.Ytalnaafmonmlmaa.Q
open Go.RowKit Go.Proofs.YtalnaafmonmlmaaW.PrintWords Go.Proofs.YtalnaafmonmlmaaW.PrintLast Go.Proofs.YtalnaafmonmlmaaW.PrintMore
attribute [local go_sem] max2_int min2_int max_two min_two max_three min_three max_four min_four
set_option linter.unusedVariables false
set_option linter.unusedSimpArgs false
set_option maxHeartbeats 8000000
set_option maxRecDepth 100000
def fp_Gcd.l0 : Nat → Int → List Int → List Int → Option (List Int)
 | 0, _, _, _ => none
 | k + 1, x0, x1, x2 => if (x2.length : Int) > 0 then ((fp_Rem.f k x0 x1 x2).bind fun t101 => (fp_Gcd.l0 k x0 x2 t101)) else ((fp_Monic.f k x0 x1).bind fun t104 => (some t104))
def fp_Gcd.f (k : Nat) (a0 : Int) (l1 : List Int) (l2 : List Int) : Option (List Int) := fp_Gcd.l0 k a0 l1 l2
theorem fp_Gcd.mono_l : ∀ k, (∀ y0 y1 y2, LeO (fp_Gcd.l0 k y0 y1 y2) (fp_Gcd.l0 (k + 1) y0 y1 y2))
 | 0 => fun _ _ _ r h => by simp [fp_Gcd.l0] at h
 | k + 1 => by
  have ih0 := fp_Gcd.mono_l k
  intro y0 y1 y2
  unfold fp_Gcd.l0
  with_reducible repeat' first | exact ih0 _ _ _ | exact fp_Monic.mono _ _ _ | exact fp_Rem.mono _ _ _ _ | exact LeO.refl _ | exact LeO.none _ | refine LeO.ite ?_ ?_ | refine LeO.bind ?_ (fun _ => ?_)
theorem fp_Gcd.mono : ∀ a0 a1 a2 k, LeO (fp_Gcd.f k a0 a1 a2) (fp_Gcd.f (k + 1) a0 a1 a2) := by
 intro a0 a1 a2 k
 have ih0 := fp_Gcd.mono_l k
 unfold fp_Gcd.f
 with_reducible repeat' first | exact ih0 _ _ _ | exact fp_Monic.mono _ _ _ | exact fp_Rem.mono _ _ _ _ | exact LeO.refl _ | exact LeO.none _ | refine LeO.ite ?_ ?_ | refine LeO.bind ?_ (fun _ => ?_)
theorem fp_Gcd.calls (k : Nat) (a0 : Int) (P1_ : Nat → Prop) (A1 : Option Addr) (c1 : Nat) (l1 : List Int) (P2_ : Nat → Prop) (A2 : Option Addr) (c2 : Nat) (l2 : List Int) (r : List Int) (w : World) (hs1 : Kd.V (Kd.int .i64) 3 w w.heap.size (fun k_ => P1_ k_) (.slice A1 l1.length c1) l1) (hs2 : Kd.V (Kd.int .i64) 3 w w.heap.size (fun k_ => P2_ k_) (.slice A2 l2.length c2) l2) (h : fp_Gcd.f k a0 l1 l2 = some r) :
  Calls Try.prog 85 #[.int .i64 a0, .slice A1 l1.length c1, .slice A2 l2.length c2] w fun e w' => ∃ v0_ : Value, e = .returned (v0_) ∧ Kd.V (Kd.int .i64) 3 w' w.heap.size (fun k_ => ((P1_ k_ ∨ P2_ k_) ∨ w.heap.size ≤ k_)) v0_ r ∧ Below w.heap.size w w' := by
 have HO1 := Aside0.mk (show Kd.V (Kd.int .i64) 3 w w.heap.size (fun k_ => ((P1_ k_ ∨ P2_ k_) ∨ w.heap.size ≤ k_)) (.slice A1 l1.length c1) l1 from Kd.V_mono hs1 (fun k_ hk => .inl (.inl hk)))
 have HO2 := Aside0.mk (show Kd.V (Kd.int .i64) 3 w w.heap.size (fun k_ => ((P1_ k_ ∨ P2_ k_) ∨ w.heap.size ≤ k_)) (.slice A2 l2.length c2) l2 from Kd.V_mono hs2 (fun k_ hk => .inl (.inr hk)))
 have HB := Aside0.mk (Below.refl w.heap.size w)
 have H := h; clear h; unfold fp_Gcd.f at H
 have H' := Aside0.mk H
 clear H
 go_enter Try.func85, Try.ntmps85
 go_wp2
 go_loopg [1, 2] k (fun kq v1 v2 w' => ∃ (x1_1 : List Int) (x2_1 : List Int), Aside0 (fp_Gcd.l0 kq a0 x1_1 x2_1 = some r) ∧ Aside0 (kq ≤ k) ∧ Aside0 (Kd.V (Kd.int .i64) 3 w' w.heap.size (fun k_ => ((P1_ k_ ∨ P2_ k_) ∨ w.heap.size ≤ k_)) v1 x1_1) ∧ Aside0 (Kd.V (Kd.int .i64) 3 w' w.heap.size (fun k_ => ((P1_ k_ ∨ P2_ k_) ∨ w.heap.size ≤ k_)) v2 x2_1) ∧ Aside0 (Below w.heap.size w w'))
 case atStart => exact ⟨(l1), (l2), H', ⟨Nat.le_refl _⟩, ⟨zV HO1.out⟩, ⟨zV HO2.out⟩, ⟨zT⟩⟩
 case round =>
  clear H'
  try clear c1; try clear c2; try clear p2
  obtain ⟨x1_1, x2_1, HA, HK1, HO_1, HO_2, HB⟩ := hrel
  cases gk with
  | zero => exact absurd HA.out (by simp [fp_Gcd.l0])
  | succ k1 =>
   have H := HA.out
   clear HA
   simp only [fp_Gcd.l0] at H
   by_cases c4 : (x2_1.length : Int) > 0
   rotate_left
   ·rw [if_neg c4] at H
    have c4b0 : decide (0 < (x2_1.length : Int)) = false := decide_eq_false c4
    have c4b1 : decide (0 < x2_1.length) = false := decide_eq_false (by omega)
    clear c4
    obtain ⟨t104, A9, H⟩ := zO H
    obtain rfl := Option.some.inj H
    obtain ⟨Ao10, co10, eo10⟩ := Kd.V_slice HO_2.out
    subst eo10
    obtain ⟨Ao11, co11, eo11⟩ := Kd.V_slice HO_1.out
    subst eo11
    go_wp2_with (first | ((with_reducible refine gate_callee (f := 107) rfl ?_); refine zG (some 17) Try.func107 #[.int .i64 a0, .slice Ao11 x1_1.length co11] ?_; (with_reducible refine (fp_Monic.calls k1 a0 _ _ x1_1 t104 _ ?side1 ?side2 A9.out).mono ?_); (case side1 => exact zC ((Kd.V_reads' HO_1.out).2.2)); (case side2 => exact (Kd.V_reads' HO_1.out).2.1); rintro e w12 ⟨v105, rfl, ho0, hb⟩; refine ⟨_, rfl, ?_⟩; replace HO_1 := zVb HO_1 hb; replace HO_2 := zVb HO_2 hb; have HO106 := Aside0.mk (Kd.V_lower (Kd.V_mono (ok' := fun k_ => ((P1_ k_ ∨ P2_ k_) ∨ w.heap.size ≤ k_)) ho0 (fun k_ hk_ => (.inr (Nat.le_trans (zS HB) hk_)))) (zS HB)); replace HB := zBb HB hb; (try clear hb); (try clear ho0)))
    go_ret
    exact ⟨_, zQ, zV HO106.out, zT⟩
   rw [if_pos c4] at H
   have c4b0 : decide (0 < (x2_1.length : Int)) = true := decide_eq_true c4
   have c4b1 : decide (0 < x2_1.length) = true := decide_eq_true (by omega)
   clear c4
   obtain ⟨t101, A5, H⟩ := zO H
   have H' := Aside0.mk H
   clear H
   obtain ⟨Ao6, co6, eo6⟩ := Kd.V_slice HO_2.out
   subst eo6
   obtain ⟨Ao7, co7, eo7⟩ := Kd.V_slice HO_1.out
   subst eo7
   go_wp2_with (first | ((with_reducible refine gate_callee (f := 83) rfl ?_); refine zG (some 14) Try.func83 #[.int .i64 a0, .slice Ao7 x1_1.length co7, .slice Ao6 x2_1.length co6] ?_; (with_reducible refine (fp_Rem.calls k1 a0 _ _ x1_1 _ _ x2_1 t101 _ ?side1 ?side2 ?side3 ?side4 A5.out).mono ?_); (case side1 => exact zC ((Kd.V_reads' HO_1.out).2.2)); (case side2 => exact (Kd.V_reads' HO_1.out).2.1); (case side3 => exact zC ((Kd.V_reads' HO_2.out).2.2)); (case side4 => exact (Kd.V_reads' HO_2.out).2.1); rintro e w8 ⟨v102, rfl, ho0, hb⟩; refine ⟨_, rfl, ?_⟩; replace HO_1 := zVb HO_1 hb; replace HO_2 := zVb HO_2 hb; have HO103 := Aside0.mk (Kd.V_lower (Kd.V_mono (ok' := fun k_ => ((P1_ k_ ∨ P2_ k_) ∨ w.heap.size ≤ k_)) ho0 (fun k_ hk_ => (.inr (Nat.le_trans (zS HB) hk_)))) (zS HB)); replace HB := zBb HB hb; (try clear hb); (try clear ho0)))
   go_roundg k1
   case measure => have := HK1.out; omega
   case rel => exact ⟨(x2_1), (t101), H', ⟨by have := HK1.out; omega⟩, ⟨zV HO_2.out⟩, ⟨zV HO103.out⟩, ⟨zT⟩⟩
end Go.Proofs.Ytalnaafmonmlmaa.Q
end
section
namespace Go.Proofs.Ytalnaafmonmlmaa.Q
open Go.RowKit Go.Proofs.YtalnaafmonmlmaaW.PrintWords Go.Proofs.YtalnaafmonmlmaaW.PrintLast Go.Proofs.YtalnaafmonmlmaaW.PrintMore
attribute [local go_sem] max2_int min2_int max_two min_two max_three min_three max_four min_four
set_option linter.unusedVariables false
set_option linter.unusedSimpArgs false
set_option maxHeartbeats 8000000
set_option maxRecDepth 100000
def fp_Irreducible.l0 : Nat → Int → List Int → Int → List Int → List Int → Int → Option (Bool)
 | 0, _, _, _, _, _, _ => none
 | k + 1, x0, x1, x5, x6, x7, x8 => if x8 ≤ x5 then ((fp_Power.f k x0 x7 x1).bind fun t107 => ((fp_Rem.f k x0 x6 x1).bind fun t110 => ((fp_Sub.f k x0 t107 t110).bind fun t113 => (if x8 = x5 then (some ((t113.length : Int) == 0)) else (if x8 = 0 then (none) else (if (Int.tmod x5 x8) = 0 then ((fp_Gcd.f k x0 t113 x1).bind fun t116 => (if (t116.length : Int) = 1 then (fp_Irreducible.l0 k x0 x1 x5 x6 t107 (wrap64 (x8 + 1))) else (some false))) else (fp_Irreducible.l0 k x0 x1 x5 x6 t107 (wrap64 (x8 + 1))))))))) else (some false)
def fp_Irreducible.f (k : Nat) (a0 : Int) (l1 : List Int) : Option (Bool) := if (wrap64 ((l1.length : Int) - 1)) < 1 then (some false) else ((some (([0, 1] : List Int) : List Int)).bind fun y101 => ((fp_Rem.f k a0 y101 l1).bind fun t104 => (fp_Irreducible.l0 k a0 l1 (wrap64 ((l1.length : Int) - 1)) y101 t104 1)))
theorem fp_Irreducible.mono_l : ∀ k, (∀ y0 y1 y2 y3 y4 y5, LeO (fp_Irreducible.l0 k y0 y1 y2 y3 y4 y5) (fp_Irreducible.l0 (k + 1) y0 y1 y2 y3 y4 y5))
 | 0 => fun _ _ _ _ _ _ r h => by simp [fp_Irreducible.l0] at h
 | k + 1 => by
  have ih0 := fp_Irreducible.mono_l k
  intro y0 y1 y2 y3 y4 y5
  unfold fp_Irreducible.l0
  with_reducible repeat' first | exact ih0 _ _ _ _ _ _ | exact fp_Gcd.mono _ _ _ _ | exact fp_Power.mono _ _ _ _ | exact fp_Rem.mono _ _ _ _ | exact fp_Sub.mono _ _ _ _ | exact LeO.refl _ | exact LeO.none _ | refine LeO.ite ?_ ?_ | refine LeO.bind ?_ (fun _ => ?_)
theorem fp_Irreducible.mono : ∀ a0 a1 k, LeO (fp_Irreducible.f k a0 a1) (fp_Irreducible.f (k + 1) a0 a1) := by
 intro a0 a1 k
 have ih0 := fp_Irreducible.mono_l k
 unfold fp_Irreducible.f
 with_reducible repeat' first | exact ih0 _ _ _ _ _ _ | exact fp_Gcd.mono _ _ _ _ | exact fp_Power.mono _ _ _ _ | exact fp_Rem.mono _ _ _ _ | exact fp_Sub.mono _ _ _ _ | exact LeO.refl _ | exact LeO.none _ | refine LeO.ite ?_ ?_ | refine LeO.bind ?_ (fun _ => ?_)
theorem fp_Irreducible.calls (k : Nat) (a0 : Int) (A1 : Option Addr) (c1 : Nat) (l1 : List Int) (r : Bool) (w : World) (hr1 : Kd.C (Kd.int .i64) w A1 l1.length l1) (hc1 : l1.length ≤ c1) (h : fp_Irreducible.f k a0 l1 = some r) :
  Calls Try.prog 46 #[.int .i64 a0, .slice A1 l1.length c1] w fun e w' => e = .returned (.bool r) ∧ Below w.heap.size w w' := by
 have HR1 := Aside0.mk hr1
 have HC1 := Aside0.mk hc1
 clear hr1 hc1
 have HB := Aside0.mk (Below.refl w.heap.size w)
 have H := h; clear h; unfold fp_Irreducible.f at H
 by_cases c3 : (wrap64 ((l1.length : Int) - 1)) < 1
 ·rw [if_pos c3] at H
  have c3b0 := decide_eq_true c3; clear c3
  obtain rfl := Option.some.inj H
  go_enter Try.func46, Try.ntmps46
  go_wp2
  go_ret
  exact ⟨zQ, zT⟩
 rw [if_neg c3] at H
 have c3b0 := decide_eq_false c3; clear c3
 obtain ⟨y101, Ny101, H⟩ := zY H
 obtain ⟨t104, A4, H⟩ := zO H
 have H' := Aside0.mk H
 clear H
 go_enter Try.func46, Try.ntmps46
 go_wp2_with (first | ((with_reducible refine gate_dst (N := 15) rfl ?_); (try (refine gate_guard (by rfl) ?_; dsimp only)); refine Kd.R_lit (Kd.int .i64) _ 3 ?hg (N := 15) ?hd (xs := ([0, 1] : List Int)) (inner := [.int .i64 0, .int .i64 1]) (ok := fun _ => True) (okp := fun _ => True) ?hr ?hp (fun _ hk => hk) trivial (Below.refl _ _) (Nat.le_refl _) (by simp) ?_; (case hd => rfl); (case hg => rfl); (case hr => go_simp <;> rfl); (case hp => exact (Reps.one (show Kd.M (Kd.int .i64) _ _ _ 0 [.int .i64 0] from rfl) (Reps.one (show Kd.M (Kd.int .i64) _ _ _ 1 [.int .i64 1] from rfl) (Reps.none _ _)))); intro v102 w5 ho6 hb hg_ hnew_; clear hg_ hnew_; (first | rw [← Ny101.out] at ho6 | (simp only [Int.reduceToNat] at ho6; rw [← Ny101.out] at ho6)); have HO103 := Aside0.mk (Kd.R_lower ho6 (zS HB)); replace HB := zBb HB hb; clear hb ho6; obtain ⟨Ao7, co7, eo7⟩ := Kd.R_slice HO103.out; subst eo7) | ((with_reducible refine gate_callee (f := 83) rfl ?_); refine zG (some 19) Try.func83 #[.int .i64 a0, .slice Ao7 y101.length co7, .slice A1 l1.length c1] ?_; (with_reducible refine (fp_Rem.calls k a0 _ _ y101 _ _ l1 t104 _ ?side1 ?side2 ?side3 ?side4 A4.out).mono ?_); (case side1 => exact zC ((Kd.R_reads' HO103.out).2.2)); (case side2 => exact (Kd.R_reads' HO103.out).2.1); (case side3 => exact zC ((Kd.C_below HR1.out HB.out))); (case side4 => exact HC1.out); rintro e w8 ⟨v105, rfl, ho0, hb⟩; refine ⟨_, rfl, ?_⟩; have HO106 := Aside0.mk (Kd.V_lower (Kd.V_mono (ok' := fun k_ => some k_ ≠ (.slice Ao7 y101.length co7 : Value).ownBlock) ho0 (fun k_ hk_ => (Kd.fresh' (Kd.R_lt (zR HO103.out)) k_ hk_))) (zS HB)); replace HO103 := zRb HO103 hb; replace HB := zBb HB hb; (try clear hb); (try clear ho0)))
 go_loopg [7, 8] k (fun kq v7 v8 w' => ∃ (x7_1 : List Int) (x8_1 : Int), v8 = .int .i64 x8_1 ∧ Aside0 (fp_Irreducible.l0 kq a0 l1 (wrap64 ((l1.length : Int) - 1)) y101 x7_1 x8_1 = some r) ∧ Aside0 (kq ≤ k) ∧ Aside0 (Kd.R (Kd.int .i64) 3 w' w.heap.size (fun _ => True) (.slice Ao7 y101.length co7) y101) ∧ Aside0 (Kd.V (Kd.int .i64) 3 w' w.heap.size (fun k_ => some k_ ≠ ((.slice Ao7 y101.length co7) : Value).ownBlock) v7 x7_1) ∧ Aside0 (Below w.heap.size w w'))
 case atStart => exact ⟨(t104), (1), zX, H', ⟨Nat.le_refl _⟩, ⟨zR HO103.out⟩, ⟨zV HO106.out⟩, ⟨zT⟩⟩
 case round =>
  clear H'
  try clear c1; try clear p2; try clear c3; try clear c3b0; try clear c4; try clear p6; try clear c8
  obtain ⟨x7_1, x8_1, rfl, HA, HK1, HO_6, HO_7, HB⟩ := hrel
  cases gk with
  | zero => exact absurd HA.out (by simp [fp_Irreducible.l0])
  | succ k1 =>
   have H := HA.out
   clear HA
   simp only [fp_Irreducible.l0] at H
   by_cases c9 : x8_1 ≤ (wrap64 ((l1.length : Int) - 1))
   rotate_left
   ·rw [if_neg c9] at H
    have c9b0 := decide_eq_false c9; clear c9
    obtain rfl := Option.some.inj H
    go_wp2
    go_ret
    exact ⟨zQ, zT⟩
   rw [if_pos c9] at H
   have c9b0 := decide_eq_true c9; clear c9
   obtain ⟨t107, A10, H⟩ := zO H
   obtain ⟨t110, A11, H⟩ := zO H
   obtain ⟨t113, A12, H⟩ := zO H
   by_cases c13 : x8_1 = (wrap64 ((l1.length : Int) - 1))
   ·rw [if_pos c13] at H
    obtain ⟨c13b0, c13b1⟩ := zE c13; clear c13
    obtain rfl := Option.some.inj H
    obtain ⟨Ao14, co14, eo14⟩ := Kd.V_slice HO_7.out
    subst eo14
    go_wp2_with (first | ((with_reducible refine gate_callee (f := 84) rfl ?_); refine zG (some 28) Try.func84 #[.int .i64 a0, .slice Ao14 x7_1.length co14, .slice A1 l1.length c1] ?_; (with_reducible refine (fp_Power.calls k1 a0 _ _ x7_1 _ _ l1 t107 _ ?side1 ?side2 ?side3 ?side4 A10.out).mono ?_); (case side1 => exact zC ((Kd.V_reads' HO_7.out).2.2)); (case side2 => exact (Kd.V_reads' HO_7.out).2.1); (case side3 => exact zC ((Kd.C_below HR1.out HB.out))); (case side4 => exact HC1.out); rintro e w15 ⟨v108, rfl, ho0, hb⟩; refine ⟨_, rfl, ?_⟩; replace HO_7 := zVb HO_7 hb; have HO109 := Aside0.mk (Kd.V_lower (Kd.V_mono (ok' := fun k_ => some k_ ≠ (.slice Ao7 y101.length co7 : Value).ownBlock) ho0 (fun k_ hk_ => (Kd.fresh' (Kd.R_lt (zR HO_6.out)) k_ hk_))) (zS HB)); replace HO_6 := zRb HO_6 hb; replace HB := zBb HB hb; (try clear hb); (try clear ho0)) | ((with_reducible refine gate_callee (f := 83) rfl ?_); refine zG (some 34) Try.func83 #[.int .i64 a0, .slice Ao7 y101.length co7, .slice A1 l1.length c1] ?_; (with_reducible refine (fp_Rem.calls k1 a0 _ _ y101 _ _ l1 t110 _ ?side1 ?side2 ?side3 ?side4 A11.out).mono ?_); (case side1 => exact zC ((Kd.R_reads' HO_6.out).2.2)); (case side2 => exact (Kd.R_reads' HO_6.out).2.1); (case side3 => exact zC ((Kd.C_below HR1.out HB.out))); (case side4 => exact HC1.out); rintro e w16 ⟨v111, rfl, ho0, hb⟩; refine ⟨_, rfl, ?_⟩; replace HO_7 := zVb HO_7 hb; replace HO109 := zVb HO109 hb; have HO112 := Aside0.mk (Kd.V_lower (Kd.V_mono (ok' := fun k_ => some k_ ≠ (.slice Ao7 y101.length co7 : Value).ownBlock) ho0 (fun k_ hk_ => (Kd.fresh' (Kd.R_lt (zR HO_6.out)) k_ hk_))) (zS HB)); replace HO_6 := zRb HO_6 hb; replace HB := zBb HB hb; (try clear hb); (try clear ho0); obtain ⟨Ao17, co17, eo17⟩ := Kd.V_slice HO109.out; subst eo17; obtain ⟨Ao18, co18, eo18⟩ := Kd.V_slice HO112.out; subst eo18) | ((with_reducible refine gate_callee (f := 61) rfl ?_); refine zG (some 35) Try.func61 #[.int .i64 a0, .slice Ao17 t107.length co17, .slice Ao18 t110.length co18] ?_; (with_reducible refine (fp_Sub.calls k1 a0 _ _ t107 _ _ t110 t113 _ ?side1 ?side2 ?side3 ?side4 A12.out).mono ?_); (case side1 => exact zC ((Kd.V_reads' HO109.out).2.2)); (case side2 => exact (Kd.V_reads' HO109.out).2.1); (case side3 => exact zC ((Kd.V_reads' HO112.out).2.2)); (case side4 => exact (Kd.V_reads' HO112.out).2.1); rintro e w19 ⟨v114, rfl, ho0, hb⟩; refine ⟨_, rfl, ?_⟩; replace HO_7 := zVb HO_7 hb; replace HO109 := zVb HO109 hb; replace HO112 := zVb HO112 hb; have HO115 := Aside0.mk (Kd.V_lower (Kd.V_mono (ok' := fun k_ => some k_ ≠ (.slice Ao7 y101.length co7 : Value).ownBlock) ho0 (fun k_ hk_ => (Kd.fresh' (Kd.R_lt (zR HO_6.out)) k_ hk_))) (zS HB)); replace HO_6 := zRb HO_6 hb; replace HB := zBb HB hb; (try clear hb); (try clear ho0); obtain ⟨Ao20, co20, eo20⟩ := Kd.V_slice HO115.out; subst eo20))
    go_ret
    exact ⟨zQ, zT⟩
   rw [if_neg c13] at H
   obtain ⟨c13b0, c13b1⟩ := zU c13
   by_cases c21 : x8_1 = 0
   ·rw [if_pos c21] at H
    exact absurd H (by simp)
   rw [if_neg c21] at H
   obtain ⟨c21b0, c21b1⟩ := zU c21
   by_cases c22 : (Int.tmod (wrap64 ((l1.length : Int) - 1)) x8_1) = 0
   rotate_left
   ·rw [if_neg c22] at H
    obtain ⟨c22b0, c22b1⟩ := zU c22
    have H' := Aside0.mk H
    clear H
    obtain ⟨Ao43, co43, eo43⟩ := Kd.V_slice HO_7.out
    subst eo43
    go_wp2_with (first | ((with_reducible refine gate_callee (f := 84) rfl ?_); refine zG (some 28) Try.func84 #[.int .i64 a0, .slice Ao43 x7_1.length co43, .slice A1 l1.length c1] ?_; (with_reducible refine (fp_Power.calls k1 a0 _ _ x7_1 _ _ l1 t107 _ ?side1 ?side2 ?side3 ?side4 A10.out).mono ?_); (case side1 => exact zC ((Kd.V_reads' HO_7.out).2.2)); (case side2 => exact (Kd.V_reads' HO_7.out).2.1); (case side3 => exact zC ((Kd.C_below HR1.out HB.out))); (case side4 => exact HC1.out); rintro e w44 ⟨v108, rfl, ho0, hb⟩; refine ⟨_, rfl, ?_⟩; replace HO_7 := zVb HO_7 hb; have HO109 := Aside0.mk (Kd.V_lower (Kd.V_mono (ok' := fun k_ => some k_ ≠ (.slice Ao7 y101.length co7 : Value).ownBlock) ho0 (fun k_ hk_ => (Kd.fresh' (Kd.R_lt (zR HO_6.out)) k_ hk_))) (zS HB)); replace HO_6 := zRb HO_6 hb; replace HB := zBb HB hb; (try clear hb); (try clear ho0)) | ((with_reducible refine gate_callee (f := 83) rfl ?_); refine zG (some 34) Try.func83 #[.int .i64 a0, .slice Ao7 y101.length co7, .slice A1 l1.length c1] ?_; (with_reducible refine (fp_Rem.calls k1 a0 _ _ y101 _ _ l1 t110 _ ?side1 ?side2 ?side3 ?side4 A11.out).mono ?_); (case side1 => exact zC ((Kd.R_reads' HO_6.out).2.2)); (case side2 => exact (Kd.R_reads' HO_6.out).2.1); (case side3 => exact zC ((Kd.C_below HR1.out HB.out))); (case side4 => exact HC1.out); rintro e w45 ⟨v111, rfl, ho0, hb⟩; refine ⟨_, rfl, ?_⟩; replace HO_7 := zVb HO_7 hb; replace HO109 := zVb HO109 hb; have HO112 := Aside0.mk (Kd.V_lower (Kd.V_mono (ok' := fun k_ => some k_ ≠ (.slice Ao7 y101.length co7 : Value).ownBlock) ho0 (fun k_ hk_ => (Kd.fresh' (Kd.R_lt (zR HO_6.out)) k_ hk_))) (zS HB)); replace HO_6 := zRb HO_6 hb; replace HB := zBb HB hb; (try clear hb); (try clear ho0); obtain ⟨Ao46, co46, eo46⟩ := Kd.V_slice HO109.out; subst eo46; obtain ⟨Ao47, co47, eo47⟩ := Kd.V_slice HO112.out; subst eo47) | ((with_reducible refine gate_callee (f := 61) rfl ?_); refine zG (some 35) Try.func61 #[.int .i64 a0, .slice Ao46 t107.length co46, .slice Ao47 t110.length co47] ?_; (with_reducible refine (fp_Sub.calls k1 a0 _ _ t107 _ _ t110 t113 _ ?side1 ?side2 ?side3 ?side4 A12.out).mono ?_); (case side1 => exact zC ((Kd.V_reads' HO109.out).2.2)); (case side2 => exact (Kd.V_reads' HO109.out).2.1); (case side3 => exact zC ((Kd.V_reads' HO112.out).2.2)); (case side4 => exact (Kd.V_reads' HO112.out).2.1); rintro e w48 ⟨v114, rfl, ho0, hb⟩; refine ⟨_, rfl, ?_⟩; replace HO_7 := zVb HO_7 hb; replace HO109 := zVb HO109 hb; replace HO112 := zVb HO112 hb; have HO115 := Aside0.mk (Kd.V_lower (Kd.V_mono (ok' := fun k_ => some k_ ≠ (.slice Ao7 y101.length co7 : Value).ownBlock) ho0 (fun k_ hk_ => (Kd.fresh' (Kd.R_lt (zR HO_6.out)) k_ hk_))) (zS HB)); replace HO_6 := zRb HO_6 hb; replace HB := zBb HB hb; (try clear hb); (try clear ho0)))
    go_roundg k1
    case measure => have := HK1.out; omega
    case rel => exact ⟨(t107), (wrap64 (x8_1 + 1)), zX, H', ⟨by have := HK1.out; omega⟩, ⟨zR HO_6.out⟩, ⟨zV HO109.out⟩, ⟨zT⟩⟩
   rw [if_pos c22] at H
   obtain ⟨c22b0, c22b1⟩ := zE c22; clear c22
   obtain ⟨t116, A23, H⟩ := zO H
   by_cases c24 : (t116.length : Int) = 1
   rotate_left
   ·rw [if_neg c24] at H
    obtain ⟨c24b0, c24b1⟩ := zU c24
    obtain rfl := Option.some.inj H
    obtain ⟨Ao34, co34, eo34⟩ := Kd.V_slice HO_7.out
    subst eo34
    go_wp2_with (first | ((with_reducible refine gate_callee (f := 84) rfl ?_); refine zG (some 28) Try.func84 #[.int .i64 a0, .slice Ao34 x7_1.length co34, .slice A1 l1.length c1] ?_; (with_reducible refine (fp_Power.calls k1 a0 _ _ x7_1 _ _ l1 t107 _ ?side1 ?side2 ?side3 ?side4 A10.out).mono ?_); (case side1 => exact zC ((Kd.V_reads' HO_7.out).2.2)); (case side2 => exact (Kd.V_reads' HO_7.out).2.1); (case side3 => exact zC ((Kd.C_below HR1.out HB.out))); (case side4 => exact HC1.out); rintro e w35 ⟨v108, rfl, ho0, hb⟩; refine ⟨_, rfl, ?_⟩; replace HO_7 := zVb HO_7 hb; have HO109 := Aside0.mk (Kd.V_lower (Kd.V_mono (ok' := fun k_ => some k_ ≠ (.slice Ao7 y101.length co7 : Value).ownBlock) ho0 (fun k_ hk_ => (Kd.fresh' (Kd.R_lt (zR HO_6.out)) k_ hk_))) (zS HB)); replace HO_6 := zRb HO_6 hb; replace HB := zBb HB hb; (try clear hb); (try clear ho0)) | ((with_reducible refine gate_callee (f := 83) rfl ?_); refine zG (some 34) Try.func83 #[.int .i64 a0, .slice Ao7 y101.length co7, .slice A1 l1.length c1] ?_; (with_reducible refine (fp_Rem.calls k1 a0 _ _ y101 _ _ l1 t110 _ ?side1 ?side2 ?side3 ?side4 A11.out).mono ?_); (case side1 => exact zC ((Kd.R_reads' HO_6.out).2.2)); (case side2 => exact (Kd.R_reads' HO_6.out).2.1); (case side3 => exact zC ((Kd.C_below HR1.out HB.out))); (case side4 => exact HC1.out); rintro e w36 ⟨v111, rfl, ho0, hb⟩; refine ⟨_, rfl, ?_⟩; replace HO_7 := zVb HO_7 hb; replace HO109 := zVb HO109 hb; have HO112 := Aside0.mk (Kd.V_lower (Kd.V_mono (ok' := fun k_ => some k_ ≠ (.slice Ao7 y101.length co7 : Value).ownBlock) ho0 (fun k_ hk_ => (Kd.fresh' (Kd.R_lt (zR HO_6.out)) k_ hk_))) (zS HB)); replace HO_6 := zRb HO_6 hb; replace HB := zBb HB hb; (try clear hb); (try clear ho0); obtain ⟨Ao37, co37, eo37⟩ := Kd.V_slice HO109.out; subst eo37; obtain ⟨Ao38, co38, eo38⟩ := Kd.V_slice HO112.out; subst eo38) | ((with_reducible refine gate_callee (f := 61) rfl ?_); refine zG (some 35) Try.func61 #[.int .i64 a0, .slice Ao37 t107.length co37, .slice Ao38 t110.length co38] ?_; (with_reducible refine (fp_Sub.calls k1 a0 _ _ t107 _ _ t110 t113 _ ?side1 ?side2 ?side3 ?side4 A12.out).mono ?_); (case side1 => exact zC ((Kd.V_reads' HO109.out).2.2)); (case side2 => exact (Kd.V_reads' HO109.out).2.1); (case side3 => exact zC ((Kd.V_reads' HO112.out).2.2)); (case side4 => exact (Kd.V_reads' HO112.out).2.1); rintro e w39 ⟨v114, rfl, ho0, hb⟩; refine ⟨_, rfl, ?_⟩; replace HO_7 := zVb HO_7 hb; replace HO109 := zVb HO109 hb; replace HO112 := zVb HO112 hb; have HO115 := Aside0.mk (Kd.V_lower (Kd.V_mono (ok' := fun k_ => some k_ ≠ (.slice Ao7 y101.length co7 : Value).ownBlock) ho0 (fun k_ hk_ => (Kd.fresh' (Kd.R_lt (zR HO_6.out)) k_ hk_))) (zS HB)); replace HO_6 := zRb HO_6 hb; replace HB := zBb HB hb; (try clear hb); (try clear ho0); obtain ⟨Ao40, co40, eo40⟩ := Kd.V_slice HO115.out; subst eo40) | (go_at_call 85; (with_reducible refine (fp_Gcd.calls k1 a0 (fun k_ => some k_ ≠ (.slice Ao7 y101.length co7 : Value).ownBlock) _ _ t113 (fun k_ => k_ < w.heap.size) _ _ l1 t116 _ ?side1 ?side2 A23.out).mono ?_); (case side1 => exact HO115.out); (case side2 => exact Kd.V_mk HC1.out (Kd.F_below (Kd.C_F (Kd.heap_int .i64) HR1.out) (zT))); rintro e w41 ⟨v117, rfl, ho0, hb⟩; replace HO_7 := zVb HO_7 hb; replace HO109 := zVb HO109 hb; replace HO112 := zVb HO112 hb; replace HO115 := zVb HO115 hb; have HO118 := Aside0.mk (Kd.V_lower (Kd.V_mono (ok' := fun k_ => some k_ ≠ (.slice Ao7 y101.length co7 : Value).ownBlock) ho0 (fun k_ hk_ => Or.elim hk_ (fun hs_ => Or.elim hs_ (fun hs_ => hs_) (fun hs_ => fun e_ => Nat.not_le.2 hs_ (Kd.R_base HO_6.out k_ e_.symm))) (fun hn_ => (Kd.fresh' (Kd.R_lt (zR HO_6.out)) k_ hn_)))) (zS HB)); replace HO_6 := zRb HO_6 hb; replace HB := zBb HB hb; (try clear hb); (try clear ho0); obtain ⟨Ao42, co42, eo42⟩ := Kd.V_slice HO118.out; subst eo42))
    go_ret
    exact ⟨zQ, zT⟩
   rw [if_pos c24] at H
   obtain ⟨c24b0, c24b1⟩ := zE c24; clear c24
   have H' := Aside0.mk H
   clear H
   obtain ⟨Ao25, co25, eo25⟩ := Kd.V_slice HO_7.out
   subst eo25
   go_wp2_with (first | ((with_reducible refine gate_callee (f := 84) rfl ?_); refine zG (some 28) Try.func84 #[.int .i64 a0, .slice Ao25 x7_1.length co25, .slice A1 l1.length c1] ?_; (with_reducible refine (fp_Power.calls k1 a0 _ _ x7_1 _ _ l1 t107 _ ?side1 ?side2 ?side3 ?side4 A10.out).mono ?_); (case side1 => exact zC ((Kd.V_reads' HO_7.out).2.2)); (case side2 => exact (Kd.V_reads' HO_7.out).2.1); (case side3 => exact zC ((Kd.C_below HR1.out HB.out))); (case side4 => exact HC1.out); rintro e w26 ⟨v108, rfl, ho0, hb⟩; refine ⟨_, rfl, ?_⟩; replace HO_7 := zVb HO_7 hb; have HO109 := Aside0.mk (Kd.V_lower (Kd.V_mono (ok' := fun k_ => some k_ ≠ (.slice Ao7 y101.length co7 : Value).ownBlock) ho0 (fun k_ hk_ => (Kd.fresh' (Kd.R_lt (zR HO_6.out)) k_ hk_))) (zS HB)); replace HO_6 := zRb HO_6 hb; replace HB := zBb HB hb; (try clear hb); (try clear ho0)) | ((with_reducible refine gate_callee (f := 83) rfl ?_); refine zG (some 34) Try.func83 #[.int .i64 a0, .slice Ao7 y101.length co7, .slice A1 l1.length c1] ?_; (with_reducible refine (fp_Rem.calls k1 a0 _ _ y101 _ _ l1 t110 _ ?side1 ?side2 ?side3 ?side4 A11.out).mono ?_); (case side1 => exact zC ((Kd.R_reads' HO_6.out).2.2)); (case side2 => exact (Kd.R_reads' HO_6.out).2.1); (case side3 => exact zC ((Kd.C_below HR1.out HB.out))); (case side4 => exact HC1.out); rintro e w27 ⟨v111, rfl, ho0, hb⟩; refine ⟨_, rfl, ?_⟩; replace HO_7 := zVb HO_7 hb; replace HO109 := zVb HO109 hb; have HO112 := Aside0.mk (Kd.V_lower (Kd.V_mono (ok' := fun k_ => some k_ ≠ (.slice Ao7 y101.length co7 : Value).ownBlock) ho0 (fun k_ hk_ => (Kd.fresh' (Kd.R_lt (zR HO_6.out)) k_ hk_))) (zS HB)); replace HO_6 := zRb HO_6 hb; replace HB := zBb HB hb; (try clear hb); (try clear ho0); obtain ⟨Ao28, co28, eo28⟩ := Kd.V_slice HO109.out; subst eo28; obtain ⟨Ao29, co29, eo29⟩ := Kd.V_slice HO112.out; subst eo29) | ((with_reducible refine gate_callee (f := 61) rfl ?_); refine zG (some 35) Try.func61 #[.int .i64 a0, .slice Ao28 t107.length co28, .slice Ao29 t110.length co29] ?_; (with_reducible refine (fp_Sub.calls k1 a0 _ _ t107 _ _ t110 t113 _ ?side1 ?side2 ?side3 ?side4 A12.out).mono ?_); (case side1 => exact zC ((Kd.V_reads' HO109.out).2.2)); (case side2 => exact (Kd.V_reads' HO109.out).2.1); (case side3 => exact zC ((Kd.V_reads' HO112.out).2.2)); (case side4 => exact (Kd.V_reads' HO112.out).2.1); rintro e w30 ⟨v114, rfl, ho0, hb⟩; refine ⟨_, rfl, ?_⟩; replace HO_7 := zVb HO_7 hb; replace HO109 := zVb HO109 hb; replace HO112 := zVb HO112 hb; have HO115 := Aside0.mk (Kd.V_lower (Kd.V_mono (ok' := fun k_ => some k_ ≠ (.slice Ao7 y101.length co7 : Value).ownBlock) ho0 (fun k_ hk_ => (Kd.fresh' (Kd.R_lt (zR HO_6.out)) k_ hk_))) (zS HB)); replace HO_6 := zRb HO_6 hb; replace HB := zBb HB hb; (try clear hb); (try clear ho0); obtain ⟨Ao31, co31, eo31⟩ := Kd.V_slice HO115.out; subst eo31) | (go_at_call 85; (with_reducible refine (fp_Gcd.calls k1 a0 (fun k_ => some k_ ≠ (.slice Ao7 y101.length co7 : Value).ownBlock) _ _ t113 (fun k_ => k_ < w.heap.size) _ _ l1 t116 _ ?side1 ?side2 A23.out).mono ?_); (case side1 => exact HO115.out); (case side2 => exact Kd.V_mk HC1.out (Kd.F_below (Kd.C_F (Kd.heap_int .i64) HR1.out) (zT))); rintro e w32 ⟨v117, rfl, ho0, hb⟩; replace HO_7 := zVb HO_7 hb; replace HO109 := zVb HO109 hb; replace HO112 := zVb HO112 hb; replace HO115 := zVb HO115 hb; have HO118 := Aside0.mk (Kd.V_lower (Kd.V_mono (ok' := fun k_ => some k_ ≠ (.slice Ao7 y101.length co7 : Value).ownBlock) ho0 (fun k_ hk_ => Or.elim hk_ (fun hs_ => Or.elim hs_ (fun hs_ => hs_) (fun hs_ => fun e_ => Nat.not_le.2 hs_ (Kd.R_base HO_6.out k_ e_.symm))) (fun hn_ => (Kd.fresh' (Kd.R_lt (zR HO_6.out)) k_ hn_)))) (zS HB)); replace HO_6 := zRb HO_6 hb; replace HB := zBb HB hb; (try clear hb); (try clear ho0); obtain ⟨Ao33, co33, eo33⟩ := Kd.V_slice HO118.out; subst eo33))
   go_roundg k1
   case measure => have := HK1.out; omega
   case rel => exact ⟨(t107), (wrap64 (x8_1 + 1)), zX, H', ⟨by have := HK1.out; omega⟩, ⟨zR HO_6.out⟩, ⟨zV HO109.out⟩, ⟨zT⟩⟩
end Go.Proofs.Ytalnaafmonmlmaa.Q
end
section
namespace Go.Proofs.Ytalnaafmonmlmaa.Q
open Go.RowKit Go.Proofs.YtalnaafmonmlmaaW.PrintWords Go.Proofs.YtalnaafmonmlmaaW.PrintLast Go.Proofs.YtalnaafmonmlmaaW.PrintMore
attribute [local go_sem] max2_int min2_int max_two min_two max_three min_three max_four min_four
set_option linter.unusedVariables false
set_option linter.unusedSimpArgs false
set_option maxHeartbeats 8000000
set_option maxRecDepth 100000
def galoisref09_X.f  : Option (List Int) := some (([0, 1] : List Int))
theorem galoisref09_X.calls  (r : List Int) (w : World) (h : galoisref09_X.f  = some r) :
  Calls Try.prog 87 #[] w fun e w' => ∃ v0_ : Value, e = .returned (v0_) ∧ Kd.R (Kd.int .i64) 3 w' w.heap.size (fun _ => True) v0_ r ∧ Below w.heap.size w w' := by
 have HB := Aside0.mk (Below.refl w.heap.size w)
 have H := h; clear h; unfold galoisref09_X.f at H
 obtain ⟨y101, Ny101⟩ := zA ((([0, 1] : List Int)) : List Int); rw [← Ny101.out] at H
 obtain rfl := Option.some.inj H
 go_enter Try.func87, Try.ntmps87
 go_wp2_with (first | ((with_reducible refine gate_dst (N := 1) rfl ?_); refine Kd.R_lit (Kd.int .i64) _ 3 ?hg (N := 1) ?hd (xs := ([0, 1] : List Int)) (inner := [.int .i64 0, .int .i64 1]) (ok := fun _ => True) (okp := fun _ => True) ?hr ?hp (fun _ hk => hk) trivial (Below.refl _ _) (Nat.le_refl _) (by simp) ?_; (case hd => rfl); (case hg => rfl); (case hr => go_simp <;> rfl); (case hp => exact (Reps.one (show Kd.M (Kd.int .i64) _ _ _ 0 [.int .i64 0] from rfl) (Reps.one (show Kd.M (Kd.int .i64) _ _ _ 1 [.int .i64 1] from rfl) (Reps.none _ _)))); intro v102 w1 ho2 hb hg_ hnew_; clear hg_ hnew_; (first | rw [← Ny101.out] at ho2 | (simp only [Int.reduceToNat] at ho2; rw [← Ny101.out] at ho2)); have HO103 := Aside0.mk (Kd.R_lower ho2 (zS HB)); replace HB := zBb HB hb; clear hb ho2))
 go_ret
 exact ⟨_, zQ, zR HO103.out, zT⟩
end Go.Proofs.Ytalnaafmonmlmaa.Q
end
section
namespace Go.Proofs.Ytalnaafmonmlmaa.Q
open Go.RowKit Go.Proofs.YtalnaafmonmlmaaW.PrintWords Go.Proofs.YtalnaafmonmlmaaW.PrintLast Go.Proofs.YtalnaafmonmlmaaW.PrintMore
attribute [local go_sem] max2_int min2_int max_two min_two max_three min_three max_four min_four
set_option linter.unusedVariables false
set_option linter.unusedSimpArgs false
set_option maxHeartbeats 8000000
set_option maxRecDepth 100000
def galoisref09_Gcd.l0 : Nat → Int → List Int → List Int → Option (List Int)
 | 0, _, _, _ => none
 | k + 1, x0, x1, x2 => if (x2.length : Int) > 0 then ((galoisref09_Mod.f k x0 x1 x2).bind fun t101 => (galoisref09_Gcd.l0 k x0 x2 t101)) else ((galoisref09_Monic.f k x0 x1).bind fun t104 => (some t104))
def galoisref09_Gcd.f (k : Nat) (a0 : Int) (l1 : List Int) (l2 : List Int) : Option (List Int) := galoisref09_Gcd.l0 k a0 l1 l2
theorem galoisref09_Gcd.mono_l : ∀ k, (∀ y0 y1 y2, LeO (galoisref09_Gcd.l0 k y0 y1 y2) (galoisref09_Gcd.l0 (k + 1) y0 y1 y2))
 | 0 => fun _ _ _ r h => by simp [galoisref09_Gcd.l0] at h
 | k + 1 => by
  have ih0 := galoisref09_Gcd.mono_l k
  intro y0 y1 y2
  unfold galoisref09_Gcd.l0
  with_reducible repeat' first | exact ih0 _ _ _ | exact galoisref09_Mod.mono _ _ _ _ | exact galoisref09_Monic.mono _ _ _ | exact LeO.refl _ | exact LeO.none _ | refine LeO.ite ?_ ?_ | refine LeO.bind ?_ (fun _ => ?_)
theorem galoisref09_Gcd.mono : ∀ a0 a1 a2 k, LeO (galoisref09_Gcd.f k a0 a1 a2) (galoisref09_Gcd.f (k + 1) a0 a1 a2) := by
 intro a0 a1 a2 k
 have ih0 := galoisref09_Gcd.mono_l k
 unfold galoisref09_Gcd.f
 with_reducible repeat' first | exact ih0 _ _ _ | exact galoisref09_Mod.mono _ _ _ _ | exact galoisref09_Monic.mono _ _ _ | exact LeO.refl _ | exact LeO.none _ | refine LeO.ite ?_ ?_ | refine LeO.bind ?_ (fun _ => ?_)
theorem galoisref09_Gcd.calls (k : Nat) (a0 : Int) (P1_ : Nat → Prop) (A1 : Option Addr) (c1 : Nat) (l1 : List Int) (P2_ : Nat → Prop) (A2 : Option Addr) (c2 : Nat) (l2 : List Int) (r : List Int) (w : World) (hs1 : Kd.V (Kd.int .i64) 3 w w.heap.size (fun k_ => P1_ k_) (.slice A1 l1.length c1) l1) (hs2 : Kd.V (Kd.int .i64) 3 w w.heap.size (fun k_ => P2_ k_) (.slice A2 l2.length c2) l2) (h : galoisref09_Gcd.f k a0 l1 l2 = some r) :
  Calls Try.prog 89 #[.int .i64 a0, .slice A1 l1.length c1, .slice A2 l2.length c2] w fun e w' => ∃ v0_ : Value, e = .returned (v0_) ∧ Kd.V (Kd.int .i64) 3 w' w.heap.size (fun k_ => ((P1_ k_ ∨ P2_ k_) ∨ w.heap.size ≤ k_)) v0_ r ∧ Below w.heap.size w w' := by
 have HO1 := Aside0.mk (show Kd.V (Kd.int .i64) 3 w w.heap.size (fun k_ => ((P1_ k_ ∨ P2_ k_) ∨ w.heap.size ≤ k_)) (.slice A1 l1.length c1) l1 from Kd.V_mono hs1 (fun k_ hk => .inl (.inl hk)))
 have HO2 := Aside0.mk (show Kd.V (Kd.int .i64) 3 w w.heap.size (fun k_ => ((P1_ k_ ∨ P2_ k_) ∨ w.heap.size ≤ k_)) (.slice A2 l2.length c2) l2 from Kd.V_mono hs2 (fun k_ hk => .inl (.inr hk)))
 have HB := Aside0.mk (Below.refl w.heap.size w)
 have H := h; clear h; unfold galoisref09_Gcd.f at H
 have H' := Aside0.mk H
 clear H
 go_enter Try.func89, Try.ntmps89
 go_wp2
 go_loopg [1, 2] k (fun kq v1 v2 w' => ∃ (x1_1 : List Int) (x2_1 : List Int), Aside0 (galoisref09_Gcd.l0 kq a0 x1_1 x2_1 = some r) ∧ Aside0 (kq ≤ k) ∧ Aside0 (Kd.V (Kd.int .i64) 3 w' w.heap.size (fun k_ => ((P1_ k_ ∨ P2_ k_) ∨ w.heap.size ≤ k_)) v1 x1_1) ∧ Aside0 (Kd.V (Kd.int .i64) 3 w' w.heap.size (fun k_ => ((P1_ k_ ∨ P2_ k_) ∨ w.heap.size ≤ k_)) v2 x2_1) ∧ Aside0 (Below w.heap.size w w'))
 case atStart => exact ⟨(l1), (l2), H', ⟨Nat.le_refl _⟩, ⟨zV HO1.out⟩, ⟨zV HO2.out⟩, ⟨zT⟩⟩
 case round =>
  clear H'
  try clear c1; try clear c2; try clear p2
  obtain ⟨x1_1, x2_1, HA, HK1, HO_1, HO_2, HB⟩ := hrel
  cases gk with
  | zero => exact absurd HA.out (by simp [galoisref09_Gcd.l0])
  | succ k1 =>
   have H := HA.out
   clear HA
   simp only [galoisref09_Gcd.l0] at H
   by_cases c4 : (x2_1.length : Int) > 0
   rotate_left
   ·rw [if_neg c4] at H
    have c4b0 : decide (0 < (x2_1.length : Int)) = false := decide_eq_false c4
    have c4b1 : decide (0 < x2_1.length) = false := decide_eq_false (by omega)
    clear c4
    obtain ⟨t104, A9, H⟩ := zO H
    obtain rfl := Option.some.inj H
    obtain ⟨Ao10, co10, eo10⟩ := Kd.V_slice HO_2.out
    subst eo10
    obtain ⟨Ao11, co11, eo11⟩ := Kd.V_slice HO_1.out
    subst eo11
    go_wp2_with (first | ((with_reducible refine gate_callee (f := 109) rfl ?_); refine zG (some 17) Try.func109 #[.int .i64 a0, .slice Ao11 x1_1.length co11] ?_; (with_reducible refine (galoisref09_Monic.calls k1 a0 _ _ x1_1 t104 _ ?side1 ?side2 A9.out).mono ?_); (case side1 => exact zC ((Kd.V_reads' HO_1.out).2.2)); (case side2 => exact (Kd.V_reads' HO_1.out).2.1); rintro e w12 ⟨v105, rfl, ho0, hb⟩; refine ⟨_, rfl, ?_⟩; replace HO_1 := zVb HO_1 hb; replace HO_2 := zVb HO_2 hb; have HO106 := Aside0.mk (Kd.V_lower (Kd.V_mono (ok' := fun k_ => ((P1_ k_ ∨ P2_ k_) ∨ w.heap.size ≤ k_)) ho0 (fun k_ hk_ => (.inr (Nat.le_trans (zS HB) hk_)))) (zS HB)); replace HB := zBb HB hb; (try clear hb); (try clear ho0)))
    go_ret
    exact ⟨_, zQ, zV HO106.out, zT⟩
   rw [if_pos c4] at H
   have c4b0 : decide (0 < (x2_1.length : Int)) = true := decide_eq_true c4
   have c4b1 : decide (0 < x2_1.length) = true := decide_eq_true (by omega)
   clear c4
   obtain ⟨t101, A5, H⟩ := zO H
   have H' := Aside0.mk H
   clear H
   obtain ⟨Ao6, co6, eo6⟩ := Kd.V_slice HO_2.out
   subst eo6
   obtain ⟨Ao7, co7, eo7⟩ := Kd.V_slice HO_1.out
   subst eo7
   go_wp2_with (first | ((with_reducible refine gate_callee (f := 86) rfl ?_); refine zG (some 14) Try.func86 #[.int .i64 a0, .slice Ao7 x1_1.length co7, .slice Ao6 x2_1.length co6] ?_; (with_reducible refine (galoisref09_Mod.calls k1 a0 _ _ x1_1 _ _ x2_1 t101 _ ?side1 ?side2 ?side3 ?side4 A5.out).mono ?_); (case side1 => exact zC ((Kd.V_reads' HO_1.out).2.2)); (case side2 => exact (Kd.V_reads' HO_1.out).2.1); (case side3 => exact zC ((Kd.V_reads' HO_2.out).2.2)); (case side4 => exact (Kd.V_reads' HO_2.out).2.1); rintro e w8 ⟨v102, rfl, ho0, hb⟩; refine ⟨_, rfl, ?_⟩; replace HO_1 := zVb HO_1 hb; replace HO_2 := zVb HO_2 hb; have HO103 := Aside0.mk (Kd.V_lower (Kd.V_mono (ok' := fun k_ => ((P1_ k_ ∨ P2_ k_) ∨ w.heap.size ≤ k_)) ho0 (fun k_ hk_ => (.inr (Nat.le_trans (zS HB) hk_)))) (zS HB)); replace HB := zBb HB hb; (try clear hb); (try clear ho0)))
   go_roundg k1
   case measure => have := HK1.out; omega
   case rel => exact ⟨(x2_1), (t101), H', ⟨by have := HK1.out; omega⟩, ⟨zV HO_2.out⟩, ⟨zV HO103.out⟩, ⟨zT⟩⟩
end Go.Proofs.Ytalnaafmonmlmaa.Q
end
section
namespace Go.Proofs.Ytalnaafmonmlmaa.Q
open Go.RowKit Go.Proofs.YtalnaafmonmlmaaW.PrintWords Go.Proofs.YtalnaafmonmlmaaW.PrintLast Go.Proofs.YtalnaafmonmlmaaW.PrintMore
attribute [local go_sem] max2_int min2_int max_two min_two max_three min_three max_four min_four
set_option linter.unusedVariables false
set_option linter.unusedSimpArgs false
set_option maxHeartbeats 8000000
set_option maxRecDepth 100000
def galoisref09_IsIrreducible.l0 : Nat → Int → List Int → List Int → Int → Option (Bool)
 | 0, _, _, _, _ => none
 | k + 1, x0, x1, x5, x6 => if (wrap64 (2 * x6)) ≤ (wrap64 ((x1.length : Int) - 1)) then ((galoisref01_FromInt.f k x0).bind fun t107 => ((galoisref09_PowMod.f k x0 x5 t107 x1).bind fun t108 => ((galoisref09_X.f).bind fun t111 => ((galoisref09_Sub.f k x0 t108 t111).bind fun t114 => ((galoisref09_Gcd.f k x0 t114 x1).bind fun t117 => (if (t117.length : Int) = 1 then (galoisref09_IsIrreducible.l0 k x0 x1 t108 (wrap64 (x6 + 1))) else (some false))))))) else (some true)
def galoisref09_IsIrreducible.f (k : Nat) (a0 : Int) (l1 : List Int) : Option (Bool) := if (l1.length : Int) < 2 then (some false) else ((galoisref09_X.f).bind fun t101 => ((galoisref09_Mod.f k a0 t101 l1).bind fun t104 => (galoisref09_IsIrreducible.l0 k a0 l1 t104 1)))
theorem galoisref09_IsIrreducible.mono_l : ∀ k, (∀ y0 y1 y2 y3, LeO (galoisref09_IsIrreducible.l0 k y0 y1 y2 y3) (galoisref09_IsIrreducible.l0 (k + 1) y0 y1 y2 y3))
 | 0 => fun _ _ _ _ r h => by simp [galoisref09_IsIrreducible.l0] at h
 | k + 1 => by
  have ih0 := galoisref09_IsIrreducible.mono_l k
  intro y0 y1 y2 y3
  unfold galoisref09_IsIrreducible.l0
  with_reducible repeat' first | exact ih0 _ _ _ _ | exact galoisref01_FromInt.mono _ _ | exact galoisref09_Gcd.mono _ _ _ _ | exact galoisref09_Mod.mono _ _ _ _ | exact galoisref09_PowMod.mono _ _ _ _ _ | exact galoisref09_Sub.mono _ _ _ _ | exact LeO.refl _ | exact LeO.none _ | refine LeO.ite ?_ ?_ | refine LeO.bind ?_ (fun _ => ?_)
theorem galoisref09_IsIrreducible.mono : ∀ a0 a1 k, LeO (galoisref09_IsIrreducible.f k a0 a1) (galoisref09_IsIrreducible.f (k + 1) a0 a1) := by
 intro a0 a1 k
 have ih0 := galoisref09_IsIrreducible.mono_l k
 unfold galoisref09_IsIrreducible.f
 with_reducible repeat' first | exact ih0 _ _ _ _ | exact galoisref01_FromInt.mono _ _ | exact galoisref09_Gcd.mono _ _ _ _ | exact galoisref09_Mod.mono _ _ _ _ | exact galoisref09_PowMod.mono _ _ _ _ _ | exact galoisref09_Sub.mono _ _ _ _ | exact LeO.refl _ | exact LeO.none _ | refine LeO.ite ?_ ?_ | refine LeO.bind ?_ (fun _ => ?_)
theorem galoisref09_IsIrreducible.calls (k : Nat) (a0 : Int) (A1 : Option Addr) (c1 : Nat) (l1 : List Int) (r : Bool) (w : World) (hr1 : Kd.C (Kd.int .i64) w A1 l1.length l1) (hc1 : l1.length ≤ c1) (h : galoisref09_IsIrreducible.f k a0 l1 = some r) :
  Calls Try.prog 48 #[.int .i64 a0, .slice A1 l1.length c1] w fun e w' => e = .returned (.bool r) ∧ Below w.heap.size w w' := by
 have HR1 := Aside0.mk hr1
 have HC1 := Aside0.mk hc1
 clear hr1 hc1
 have HB := Aside0.mk (Below.refl w.heap.size w)
 have H := h; clear h; unfold galoisref09_IsIrreducible.f at H
 by_cases c3 : (l1.length : Int) < 2
 ·rw [if_pos c3] at H
  have c3b0 : decide ((l1.length : Int) < 2) = true := decide_eq_true c3
  have c3b1 : decide (l1.length < 2) = true := decide_eq_true (by omega)
  clear c3
  obtain rfl := Option.some.inj H
  go_enter Try.func48, Try.ntmps48
  go_wp2
  go_ret
  exact ⟨zQ, zT⟩
 rw [if_neg c3] at H
 have c3b0 : decide ((l1.length : Int) < 2) = false := decide_eq_false c3
 have c3b1 : decide (l1.length < 2) = false := decide_eq_false (by omega)
 clear c3
 obtain ⟨t101, A4, H⟩ := zO H
 obtain ⟨t104, A5, H⟩ := zO H
 have H' := Aside0.mk H
 clear H
 go_enter Try.func48, Try.ntmps48
 go_wp2_with (first | ((with_reducible refine gate_callee (f := 87) rfl ?_); refine zG (some 11) Try.func87 #[] ?_; (with_reducible refine (galoisref09_X.calls  t101 _ A4.out).mono ?_); rintro e w6 ⟨v102, rfl, ho0, hb⟩; refine ⟨_, rfl, ?_⟩; have HO103 := Aside0.mk (Kd.R_lower ho0 (zS HB)); replace HB := zBb HB hb; (try clear hb); (try clear ho0); obtain ⟨Ao7, co7, eo7⟩ := Kd.R_slice HO103.out; subst eo7) | ((with_reducible refine gate_callee (f := 86) rfl ?_); refine zG (some 13) Try.func86 #[.int .i64 a0, .slice Ao7 t101.length co7, .slice A1 l1.length c1] ?_; (with_reducible refine (galoisref09_Mod.calls k a0 _ _ t101 _ _ l1 t104 _ ?side1 ?side2 ?side3 ?side4 A5.out).mono ?_); (case side1 => exact zC ((Kd.R_reads' HO103.out).2.2)); (case side2 => exact (Kd.R_reads' HO103.out).2.1); (case side3 => exact zC ((Kd.C_below HR1.out HB.out))); (case side4 => exact HC1.out); rintro e w8 ⟨v105, rfl, ho0, hb⟩; refine ⟨_, rfl, ?_⟩; have HO106 := Aside0.mk (Kd.V_lower (Kd.V_mono (ok' := fun k_ => some k_ ≠ (.slice Ao7 t101.length co7 : Value).ownBlock) ho0 (fun k_ hk_ => (Kd.fresh' (Kd.R_lt (zR HO103.out)) k_ hk_))) (zS HB)); replace HO103 := zRb HO103 hb; replace HB := zBb HB hb; (try clear hb); (try clear ho0)))
 go_loopg [5, 6] k (fun kq v5 v6 w' => ∃ (x5_1 : List Int) (x6_1 : Int), v6 = .int .i64 x6_1 ∧ Aside0 (galoisref09_IsIrreducible.l0 kq a0 l1 x5_1 x6_1 = some r) ∧ Aside0 (kq ≤ k) ∧ Aside0 (Kd.V (Kd.int .i64) 3 w' w.heap.size (fun _ => True) v5 x5_1) ∧ Aside0 (Below w.heap.size w w'))
 case atStart => exact ⟨(t104), (1), zX, H', ⟨Nat.le_refl _⟩, ⟨zV (Kd.V_mono HO106.out (fun _ hk => trivial))⟩, ⟨zT⟩⟩
 case round =>
  clear H'
  try clear c1; try clear p2; try clear c3; try clear c3b0; try clear c3b1; try clear c4; try clear c8
  obtain ⟨x5_1, x6_1, rfl, HA, HK1, HO_5, HB⟩ := hrel
  cases gk with
  | zero => exact absurd HA.out (by simp [galoisref09_IsIrreducible.l0])
  | succ k1 =>
   have H := HA.out
   clear HA
   simp only [galoisref09_IsIrreducible.l0] at H
   by_cases c9 : (wrap64 (2 * x6_1)) ≤ (wrap64 ((l1.length : Int) - 1))
   rotate_left
   ·rw [if_neg c9] at H
    have c9b0 := decide_eq_false c9; clear c9
    obtain rfl := Option.some.inj H
    go_wp2
    go_ret
    exact ⟨zQ, zT⟩
   rw [if_pos c9] at H
   have c9b0 := decide_eq_true c9; clear c9
   obtain ⟨t107, A10, H⟩ := zO H
   obtain ⟨t108, A11, H⟩ := zO H
   obtain ⟨t111, A12, H⟩ := zO H
   obtain ⟨t114, A13, H⟩ := zO H
   obtain ⟨t117, A14, H⟩ := zO H
   by_cases c15 : (t117.length : Int) = 1
   rotate_left
   ·rw [if_neg c15] at H
    obtain ⟨c15b0, c15b1⟩ := zU c15
    obtain rfl := Option.some.inj H
    go_wp2_with (first | ((with_reducible refine gate_callee (f := 35) rfl ?_); refine zG (some 25) Try.func35 #[.int .i64 a0] ?_; (with_reducible refine (galoisref01_FromInt.calls k1 a0 t107 _ A10.out).mono ?_); rintro e w26 ⟨rfl, hb⟩; refine ⟨_, rfl, ?_⟩; replace HO_5 := zVb HO_5 hb; replace HB := zBb HB hb; (try clear hb); obtain ⟨Ao27, co27, eo27⟩ := Kd.V_slice HO_5.out; subst eo27) | ((with_reducible refine gate_callee (f := 88) rfl ?_); refine zG (some 27) Try.func88 #[.int .i64 a0, .slice Ao27 x5_1.length co27, .string t107, .slice A1 l1.length c1] ?_; (with_reducible refine (galoisref09_PowMod.calls k1 a0 _ _ x5_1 t107 _ _ l1 t108 _ ?side1 ?side2 ?side3 ?side4 A11.out).mono ?_); (case side1 => exact zC ((Kd.V_reads' HO_5.out).2.2)); (case side2 => exact (Kd.V_reads' HO_5.out).2.1); (case side3 => exact zC ((Kd.C_below HR1.out HB.out))); (case side4 => exact HC1.out); rintro e w28 ⟨v109, rfl, ho0, hb⟩; refine ⟨_, rfl, ?_⟩; replace HO_5 := zVb HO_5 hb; have HO110 := Aside0.mk (Kd.V_lower (Kd.V_mono (ok' := fun k_ => True) ho0 (fun k_ hk_ => trivial)) (zS HB)); replace HB := zBb HB hb; (try clear hb); (try clear ho0)) | ((with_reducible refine gate_callee (f := 87) rfl ?_); refine zG (some 31) Try.func87 #[] ?_; (with_reducible refine (galoisref09_X.calls  t111 _ A12.out).mono ?_); rintro e w29 ⟨v112, rfl, ho0, hb⟩; refine ⟨_, rfl, ?_⟩; replace HO_5 := Aside0.mk (Kd.V_elder' (zV HO_5.out) (Kd.R_base ho0) hb); replace HO110 := Aside0.mk (Kd.V_elder' (zV HO110.out) (Kd.R_base ho0) hb); have HO113 := Aside0.mk (Kd.R_lower ho0 (zS HB)); replace HB := zBb HB hb; (try clear hb); (try clear ho0); obtain ⟨Ao30, co30, eo30⟩ := Kd.V_slice HO110.out; subst eo30; obtain ⟨Ao31, co31, eo31⟩ := Kd.R_slice HO113.out; subst eo31) | ((with_reducible refine gate_callee (f := 65) rfl ?_); refine zG (some 32) Try.func65 #[.int .i64 a0, .slice Ao30 t108.length co30, .slice Ao31 t111.length co31] ?_; (with_reducible refine (galoisref09_Sub.calls k1 a0 _ _ t108 _ _ t111 t114 _ ?side1 ?side2 ?side3 ?side4 A13.out).mono ?_); (case side1 => exact zC ((Kd.V_reads' HO110.out).2.2)); (case side2 => exact (Kd.V_reads' HO110.out).2.1); (case side3 => exact zC ((Kd.R_reads' HO113.out).2.2)); (case side4 => exact (Kd.R_reads' HO113.out).2.1); rintro e w32 ⟨v115, rfl, ho0, hb⟩; refine ⟨_, rfl, ?_⟩; replace HO_5 := zVb HO_5 hb; replace HO110 := zVb HO110 hb; have HO116 := Aside0.mk (Kd.V_lower (Kd.V_mono (ok' := fun k_ => some k_ ≠ (.slice Ao31 t111.length co31 : Value).ownBlock) ho0 (fun k_ hk_ => (Kd.fresh' (Kd.R_lt (zR HO113.out)) k_ hk_))) (zS HB)); replace HO113 := zRb HO113 hb; replace HB := zBb HB hb; (try clear hb); (try clear ho0); obtain ⟨Ao33, co33, eo33⟩ := Kd.V_slice HO116.out; subst eo33) | ((with_reducible refine gate_callee (f := 89) rfl ?_); refine zG (some 34) Try.func89 #[.int .i64 a0, .slice Ao33 t114.length co33, .slice A1 l1.length c1] ?_; (with_reducible refine (galoisref09_Gcd.calls k1 a0 (fun k_ => some k_ ≠ (.slice Ao31 t111.length co31 : Value).ownBlock) _ _ t114 (fun k_ => k_ < w.heap.size) _ _ l1 t117 _ ?side1 ?side2 A14.out).mono ?_); (case side1 => exact HO116.out); (case side2 => exact Kd.V_mk HC1.out (Kd.F_below (Kd.C_F (Kd.heap_int .i64) HR1.out) (zT))); rintro e w34 ⟨v118, rfl, ho0, hb⟩; refine ⟨_, rfl, ?_⟩; replace HO_5 := zVb HO_5 hb; replace HO110 := zVb HO110 hb; replace HO116 := zVb HO116 hb; have HO119 := Aside0.mk (Kd.V_lower (Kd.V_mono (ok' := fun k_ => some k_ ≠ (.slice Ao31 t111.length co31 : Value).ownBlock) ho0 (fun k_ hk_ => Or.elim hk_ (fun hs_ => Or.elim hs_ (fun hs_ => hs_) (fun hs_ => fun e_ => Nat.not_le.2 hs_ (Kd.R_base HO113.out k_ e_.symm))) (fun hn_ => (Kd.fresh' (Kd.R_lt (zR HO113.out)) k_ hn_)))) (zS HB)); replace HO113 := zRb HO113 hb; replace HB := zBb HB hb; (try clear hb); (try clear ho0); obtain ⟨Ao35, co35, eo35⟩ := Kd.V_slice HO119.out; subst eo35))
    go_ret
    exact ⟨zQ, zT⟩
   rw [if_pos c15] at H
   obtain ⟨c15b0, c15b1⟩ := zE c15; clear c15
   have H' := Aside0.mk H
   clear H
   go_wp2_with (first | ((with_reducible refine gate_callee (f := 35) rfl ?_); refine zG (some 25) Try.func35 #[.int .i64 a0] ?_; (with_reducible refine (galoisref01_FromInt.calls k1 a0 t107 _ A10.out).mono ?_); rintro e w16 ⟨rfl, hb⟩; refine ⟨_, rfl, ?_⟩; replace HO_5 := zVb HO_5 hb; replace HB := zBb HB hb; (try clear hb); obtain ⟨Ao17, co17, eo17⟩ := Kd.V_slice HO_5.out; subst eo17) | ((with_reducible refine gate_callee (f := 88) rfl ?_); refine zG (some 27) Try.func88 #[.int .i64 a0, .slice Ao17 x5_1.length co17, .string t107, .slice A1 l1.length c1] ?_; (with_reducible refine (galoisref09_PowMod.calls k1 a0 _ _ x5_1 t107 _ _ l1 t108 _ ?side1 ?side2 ?side3 ?side4 A11.out).mono ?_); (case side1 => exact zC ((Kd.V_reads' HO_5.out).2.2)); (case side2 => exact (Kd.V_reads' HO_5.out).2.1); (case side3 => exact zC ((Kd.C_below HR1.out HB.out))); (case side4 => exact HC1.out); rintro e w18 ⟨v109, rfl, ho0, hb⟩; refine ⟨_, rfl, ?_⟩; replace HO_5 := zVb HO_5 hb; have HO110 := Aside0.mk (Kd.V_lower (Kd.V_mono (ok' := fun k_ => True) ho0 (fun k_ hk_ => trivial)) (zS HB)); replace HB := zBb HB hb; (try clear hb); (try clear ho0)) | ((with_reducible refine gate_callee (f := 87) rfl ?_); refine zG (some 31) Try.func87 #[] ?_; (with_reducible refine (galoisref09_X.calls  t111 _ A12.out).mono ?_); rintro e w19 ⟨v112, rfl, ho0, hb⟩; refine ⟨_, rfl, ?_⟩; replace HO_5 := Aside0.mk (Kd.V_elder' (zV HO_5.out) (Kd.R_base ho0) hb); replace HO110 := Aside0.mk (Kd.V_elder' (zV HO110.out) (Kd.R_base ho0) hb); have HO113 := Aside0.mk (Kd.R_lower ho0 (zS HB)); replace HB := zBb HB hb; (try clear hb); (try clear ho0); obtain ⟨Ao20, co20, eo20⟩ := Kd.V_slice HO110.out; subst eo20; obtain ⟨Ao21, co21, eo21⟩ := Kd.R_slice HO113.out; subst eo21) | ((with_reducible refine gate_callee (f := 65) rfl ?_); refine zG (some 32) Try.func65 #[.int .i64 a0, .slice Ao20 t108.length co20, .slice Ao21 t111.length co21] ?_; (with_reducible refine (galoisref09_Sub.calls k1 a0 _ _ t108 _ _ t111 t114 _ ?side1 ?side2 ?side3 ?side4 A13.out).mono ?_); (case side1 => exact zC ((Kd.V_reads' HO110.out).2.2)); (case side2 => exact (Kd.V_reads' HO110.out).2.1); (case side3 => exact zC ((Kd.R_reads' HO113.out).2.2)); (case side4 => exact (Kd.R_reads' HO113.out).2.1); rintro e w22 ⟨v115, rfl, ho0, hb⟩; refine ⟨_, rfl, ?_⟩; replace HO_5 := zVb HO_5 hb; replace HO110 := zVb HO110 hb; have HO116 := Aside0.mk (Kd.V_lower (Kd.V_mono (ok' := fun k_ => some k_ ≠ (.slice Ao21 t111.length co21 : Value).ownBlock) ho0 (fun k_ hk_ => (Kd.fresh' (Kd.R_lt (zR HO113.out)) k_ hk_))) (zS HB)); replace HO113 := zRb HO113 hb; replace HB := zBb HB hb; (try clear hb); (try clear ho0); obtain ⟨Ao23, co23, eo23⟩ := Kd.V_slice HO116.out; subst eo23) | ((with_reducible refine gate_callee (f := 89) rfl ?_); refine zG (some 34) Try.func89 #[.int .i64 a0, .slice Ao23 t114.length co23, .slice A1 l1.length c1] ?_; (with_reducible refine (galoisref09_Gcd.calls k1 a0 (fun k_ => some k_ ≠ (.slice Ao21 t111.length co21 : Value).ownBlock) _ _ t114 (fun k_ => k_ < w.heap.size) _ _ l1 t117 _ ?side1 ?side2 A14.out).mono ?_); (case side1 => exact HO116.out); (case side2 => exact Kd.V_mk HC1.out (Kd.F_below (Kd.C_F (Kd.heap_int .i64) HR1.out) (zT))); rintro e w24 ⟨v118, rfl, ho0, hb⟩; refine ⟨_, rfl, ?_⟩; replace HO_5 := zVb HO_5 hb; replace HO110 := zVb HO110 hb; replace HO116 := zVb HO116 hb; have HO119 := Aside0.mk (Kd.V_lower (Kd.V_mono (ok' := fun k_ => some k_ ≠ (.slice Ao21 t111.length co21 : Value).ownBlock) ho0 (fun k_ hk_ => Or.elim hk_ (fun hs_ => Or.elim hs_ (fun hs_ => hs_) (fun hs_ => fun e_ => Nat.not_le.2 hs_ (Kd.R_base HO113.out k_ e_.symm))) (fun hn_ => (Kd.fresh' (Kd.R_lt (zR HO113.out)) k_ hn_)))) (zS HB)); replace HO113 := zRb HO113 hb; replace HB := zBb HB hb; (try clear hb); (try clear ho0); obtain ⟨Ao25, co25, eo25⟩ := Kd.V_slice HO119.out; subst eo25))
   go_roundg k1
   case measure => have := HK1.out; omega
   case rel => exact ⟨(t108), (wrap64 (x6_1 + 1)), zX, H', ⟨by have := HK1.out; omega⟩, ⟨zV (Kd.V_mono HO110.out (fun _ hk => trivial))⟩, ⟨zT⟩⟩
end Go.Proofs.Ytalnaafmonmlmaa.Q
end
section
namespace Go.Proofs.Ytalnaafmonmlmaa.Q
open Go.RowKit Go.Proofs.YtalnaafmonmlmaaW.PrintWords Go.Proofs.YtalnaafmonmlmaaW.PrintLast Go.Proofs.YtalnaafmonmlmaaW.PrintMore
attribute [local go_sem] max2_int min2_int max_two min_two max_three min_three max_four min_four
set_option linter.unusedVariables false
set_option linter.unusedSimpArgs false
set_option maxHeartbeats 8000000
set_option maxRecDepth 100000
def galoisref04_IsPrime.l0 : Nat → Int → Int → Option (Bool)
 | 0, _, _ => none
 | k + 1, x0, x3 => if (wrap64 (x3 * x3)) ≤ x0 then (if x3 = 0 then (none) else (if (Int.tmod x0 x3) = 0 then (some false) else (galoisref04_IsPrime.l0 k x0 (wrap64 (x3 + 1))))) else (some (decide (x0 > 1)))
def galoisref04_IsPrime.f (k : Nat) (a0 : Int) : Option (Bool) := galoisref04_IsPrime.l0 k a0 2
theorem galoisref04_IsPrime.mono_l : ∀ k, (∀ y0 y1, LeO (galoisref04_IsPrime.l0 k y0 y1) (galoisref04_IsPrime.l0 (k + 1) y0 y1))
 | 0 => fun _ _ r h => by simp [galoisref04_IsPrime.l0] at h
 | k + 1 => by
  have ih0 := galoisref04_IsPrime.mono_l k
  intro y0 y1
  unfold galoisref04_IsPrime.l0
  with_reducible repeat' first | exact ih0 _ _ | exact LeO.refl _ | exact LeO.none _ | refine LeO.ite ?_ ?_ | refine LeO.bind ?_ (fun _ => ?_)
theorem galoisref04_IsPrime.mono : ∀ a0 k, LeO (galoisref04_IsPrime.f k a0) (galoisref04_IsPrime.f (k + 1) a0) := by
 intro a0 k
 have ih0 := galoisref04_IsPrime.mono_l k
 unfold galoisref04_IsPrime.f
 with_reducible repeat' first | exact ih0 _ _ | exact LeO.refl _ | exact LeO.none _ | refine LeO.ite ?_ ?_ | refine LeO.bind ?_ (fun _ => ?_)
theorem galoisref04_IsPrime.calls (k : Nat) (a0 : Int) (r : Bool) (w : World) (h : galoisref04_IsPrime.f k a0 = some r) :
  Calls Try.prog 44 #[.int .i64 a0] w fun e w' => e = .returned (.bool r) ∧ Drawn0 w w' := by
 have H := h; clear h; unfold galoisref04_IsPrime.f at H
 have H' := Aside0.mk H
 clear H
 go_enter Try.func44, Try.ntmps44
 go_wp2
 go_loopg [3] k (fun kq v3 w' => ∃ (x3_1 : Int), v3 = .int .i64 x3_1 ∧ Aside0 (galoisref04_IsPrime.l0 kq a0 x3_1 = some r) ∧ Aside0 (kq ≤ k) ∧ Drawn0 w w')
 case atStart => exact ⟨(2), zX, H', ⟨Nat.le_refl _⟩, by repeat (first | exact Drawn0.refl _ | apply Drawn0.step)⟩
 case round =>
  clear H'
  obtain ⟨x3_1, rfl, HA, HK1, ⟨m1, rfl⟩⟩ := hrel
  cases gk with
  | zero => exact absurd HA.out (by simp [galoisref04_IsPrime.l0])
  | succ k1 =>
   have H := HA.out
   clear HA
   simp only [galoisref04_IsPrime.l0] at H
   by_cases c2 : (wrap64 (x3_1 * x3_1)) ≤ a0
   rotate_left
   ·rw [if_neg c2] at H
    have c2b0 := decide_eq_false c2; clear c2
    obtain rfl := Option.some.inj H
    go_wp2
    go_ret
    exact ⟨by first | rfl | (simp; done) | (simp [*]; done), by repeat (first | exact Drawn0.refl _ | apply Drawn0.step)⟩
   rw [if_pos c2] at H
   have c2b0 := decide_eq_true c2; clear c2
   by_cases c3 : x3_1 = 0
   ·rw [if_pos c3] at H
    exact absurd H (by simp)
   rw [if_neg c3] at H
   obtain ⟨c3b0, c3b1⟩ := zU c3
   by_cases c4 : (Int.tmod a0 x3_1) = 0
   ·rw [if_pos c4] at H
    obtain ⟨c4b0, c4b1⟩ := zE c4; clear c4
    obtain rfl := Option.some.inj H
    go_wp2
    go_ret
    exact ⟨by first | rfl | (simp; done) | (simp [*]; done), by repeat (first | exact Drawn0.refl _ | apply Drawn0.step)⟩
   rw [if_neg c4] at H
   obtain ⟨c4b0, c4b1⟩ := zU c4
   have H' := Aside0.mk H
   clear H
   go_wp2
   go_roundg k1
   case measure => have := HK1.out; omega
   case rel => exact ⟨(wrap64 (x3_1 + 1)), zX, H', ⟨by have := HK1.out; omega⟩, by repeat (first | exact Drawn0.refl _ | apply Drawn0.step)⟩
end Go.Proofs.Ytalnaafmonmlmaa.Q
end
section
namespace Go.Proofs.Ytalnaafmonmlmaa.Q
open Go.RowKit Go.Proofs.YtalnaafmonmlmaaW.PrintWords Go.Proofs.YtalnaafmonmlmaaW.PrintLast Go.Proofs.YtalnaafmonmlmaaW.PrintMore
attribute [local go_sem] max2_int min2_int max_two min_two max_three min_three max_four min_four
set_option linter.unusedVariables false
set_option linter.unusedSimpArgs false
set_option maxHeartbeats 8000000
set_option maxRecDepth 100000
def galoisref09_IsPrime.f (k : Nat) (a0 : Int) : Option (Bool) := if a0 ≥ 2 then (if a0 ≤ 65521 then ((galoisref04_IsPrime.f k a0).bind fun t101 => (some t101)) else (some false)) else (some false)
theorem galoisref09_IsPrime.mono : ∀ a0 k, LeO (galoisref09_IsPrime.f k a0) (galoisref09_IsPrime.f (k + 1) a0) := by
 intro a0 k
 unfold galoisref09_IsPrime.f
 with_reducible repeat' first | exact galoisref04_IsPrime.mono _ _ | exact LeO.refl _ | exact LeO.none _ | refine LeO.ite ?_ ?_ | refine LeO.bind ?_ (fun _ => ?_)
theorem galoisref09_IsPrime.calls (k : Nat) (a0 : Int) (r : Bool) (w : World) (h : galoisref09_IsPrime.f k a0 = some r) :
  Calls Try.prog 10 #[.int .i64 a0] w fun e w' => e = .returned (.bool r) ∧ Drawn0 w w' := by
 have H := h; clear h; unfold galoisref09_IsPrime.f at H
 by_cases c2 : a0 ≥ 2
 rotate_left
 ·rw [if_neg c2] at H
  have c2b0 := decide_eq_false c2; clear c2
  obtain rfl := Option.some.inj H
  go_enter Try.func10, Try.ntmps10
  go_wp2
  go_ret
  exact ⟨by first | rfl | (simp; done) | (simp [*]; done), by repeat (first | exact Drawn0.refl _ | apply Drawn0.step)⟩
 rw [if_pos c2] at H
 have c2b0 := decide_eq_true c2; clear c2
 by_cases c3 : a0 ≤ 65521
 rotate_left
 ·rw [if_neg c3] at H
  have c3b0 := decide_eq_false c3; clear c3
  obtain rfl := Option.some.inj H
  go_enter Try.func10, Try.ntmps10
  go_wp2
  go_ret
  exact ⟨by first | rfl | (simp; done) | (simp [*]; done), by repeat (first | exact Drawn0.refl _ | apply Drawn0.step)⟩
 rw [if_pos c3] at H
 have c3b0 := decide_eq_true c3; clear c3
 obtain ⟨t101, A4, H⟩ := zO H
 obtain rfl := Option.some.inj H
 go_enter Try.func10, Try.ntmps10
 go_wp2_with (first | (go_at_call 44; (with_reducible refine (galoisref04_IsPrime.calls k a0 t101 _ A4.out).mono ?_); rintro e w' ⟨rfl, ⟨nd, rfl⟩⟩))
 go_ret
 exact ⟨by first | rfl | (simp; done) | (simp [*]; done), by repeat (first | exact Drawn0.refl _ | apply Drawn0.step)⟩
end Go.Proofs.Ytalnaafmonmlmaa.Q
end
section
namespace Go.Proofs.Ytalnaafmonmlmaa.Q
open Go.RowKit Go.Proofs.YtalnaafmonmlmaaW.PrintWords Go.Proofs.YtalnaafmonmlmaaW.PrintLast Go.Proofs.YtalnaafmonmlmaaW.PrintMore
attribute [local go_sem] max2_int min2_int max_two min_two max_three min_three max_four min_four
set_option linter.unusedVariables false
set_option linter.unusedSimpArgs false
set_option maxHeartbeats 8000000
set_option maxRecDepth 100000
def badP (n : Int) : Bool := decide (n < 1) || decide (2147483647 < n)
def badIdx : Nat → List Int → Int
 | _, [] => -1
 | i, x :: xs => if badP x = true then (i : Int) else badIdx (i + 1) xs
theorem bad1_calls (x : Int) (w : World) : Calls Try.prog 123 #[.int .i64 x] w fun e w' => e = .returned (.bool (badP x)) ∧ Drawn0 w w' := by
 by_cases h1 : x < 1
 ·have b : badP x = true := by simp [badP, h1]
  have B := Aside0.mk b
  clear b
  go_enter Try.func123, Try.ntmps123
  go_wp2
  repeat (go_quiet (fail); try go_wp2)
  go_ret
  rw [B.out]
  exact ⟨rfl, by repeat (first | exact Drawn0.refl _ | apply Drawn0.step)⟩
 have b : badP x = decide (2147483647 < x) := by simp [badP, h1]
 have B := Aside0.mk b
 clear b
 go_enter Try.func123, Try.ntmps123
 go_wp2
 repeat (go_quiet (fail); try go_wp2)
 go_ret
 rw [B.out]
 exact ⟨rfl, by repeat (first | exact Drawn0.refl _ | apply Drawn0.step)⟩
theorem badIdx_step (l : List Int) (i : Nat) (h : i < l.length) : badIdx i (l.drop i) = if badP (l.getD i 0) = true then (i : Int) else badIdx (i + 1) (l.drop (i + 1)) := by
 rw [List.drop_eq_getElem_cons h]
 simp only [badIdx, List.getD_eq_getElem?_getD, List.getElem?_eq_getElem h, Option.getD_some]
theorem IndexFunc_bad (A0 : Option Addr) (c0 : Nat) (l0 : List Int) (w : World) (hr0 : Kd.C (Kd.int .i64) w A0 l0.length l0) (hc0 : l0.length ≤ c0) :
  Calls Try.prog 126 #[.slice A0 l0.length c0, .func (.func 123) #[] #[]] w fun e w' => e = .returned (.int .i64 (badIdx 0 l0)) ∧ Drawn0 w w' := by
 have hmax := hr0.2.1
 have HR0 := Aside0.mk hr0
 have HC0 := Aside0.mk hc0
 clear hr0 hc0
 go_enter Try.func126, Try.ntmps126
 go_wp2
 repeat (go_quiet (fail); try go_wp2)
 go_loopg [8] l0.length (fun kq v8 w' => ∃ (x : Int), v8 = .int .i64 x ∧ Aside0 (0 ≤ x ∧ x + kq = l0.length ∧ badIdx 0 l0 = badIdx x.toNat (l0.drop x.toNat)) ∧ Drawn0 w w')
 case atStart => exact ⟨0, zX, ⟨by omega, by simp, by simp⟩, by repeat (first | exact Drawn0.refl _ | apply Drawn0.step)⟩
 case round =>
  obtain ⟨x, rfl, HA, ⟨m1, rfl⟩⟩ := hrel
  obtain ⟨hx0, hxk, hidx⟩ := HA.out
  have HI := Aside0.mk hidx
  clear hidx HA
  cases gk with
  | zero =>
   have c4b0 : decide (x < (l0.length : Int)) = false := decide_eq_false (by omega)
   have HE : Aside0 (badIdx 0 l0 = -1) := ⟨by rw [HI.out, List.drop_eq_nil_of_le (by omega)]; rfl⟩
   clear hxk
   go_wp2
   repeat (go_quiet (fail); try go_wp2)
   go_ret
   rw [HE.out]
   exact ⟨rfl, by repeat (first | exact Drawn0.refl _ | apply Drawn0.step)⟩
  | succ k1 =>
   have q257 : x < (l0.length : Int) := by omega
   have c4b0 : decide (x < (l0.length : Int)) = true := decide_eq_true q257
   have HS := Aside0.mk (badIdx_step l0 x.toNat (by omega))
   have HK := Aside0.mk hxk
   clear hxk
   obtain ⟨ad257, e257, hx257_0⟩ := Kd.at_int HR0.out x hx0 q257
   cases e257
   have HRD := Aside0.mk (show rd l0 x = l0.getD x.toNat 0 from rfl)
   replace hx0 := eq_true hx0
   replace q257 := eq_true q257
   cases hb : badP (rd l0 x) with
   | true =>
    have HE : Aside0 (badIdx 0 l0 = x) := ⟨by rw [HI.out, HS.out, if_pos (by rw [← HRD.out]; exact hb)]; have := of_eq_true hx0; omega⟩
    have HB := Aside0.mk hb
    clear hb
    go_wp2_with (first | (go_at_call 123; refine (bad1_calls _ _).mono ?_; rintro e w' ⟨rfl, ⟨nd, rfl⟩⟩; rw [HB.out]))
    go_ret
    rw [HE.out]
    exact ⟨rfl, by repeat (first | exact Drawn0.refl _ | apply Drawn0.step)⟩
   | false =>
    have HE : Aside0 (badIdx 0 l0 = badIdx (x.toNat + 1) (l0.drop (x.toNat + 1))) := ⟨by rw [HI.out, HS.out, if_neg (by rw [← HRD.out, hb]; simp)]⟩
    have HB := Aside0.mk hb
    clear hb
    go_wp2_with (first | (go_at_call 123; refine (bad1_calls _ _).mono ?_; rintro e w' ⟨rfl, ⟨nd, rfl⟩⟩; rw [HB.out]))
    go_roundg k1
    case measure => omega
    case rel => exact ⟨x + 1, by rw [show wrap64 (x + 1) = x + 1 by have := of_eq_true hx0; have := HK.out; unfold wrap64; omega], ⟨by have := of_eq_true hx0; omega, by have := HK.out; omega, by rw [HE.out, show (x + 1).toNat = x.toNat + 1 by have := of_eq_true hx0; omega]⟩, by repeat (first | exact Drawn0.refl _ | apply Drawn0.step)⟩
theorem badIdx_iff (l : List Int) : ∀ i, 0 ≤ badIdx i l ↔ l.any badP = true := by
 induction l with
 | nil => intro i; simp [badIdx]
 | cons x xs ih =>
  intro i
  have e : badIdx i (x :: xs) = if badP x = true then (i : Int) else badIdx (i + 1) xs := rfl
  rw [e, List.any_cons]
  by_cases h : badP x = true
  ·rw [if_pos h, h]; simp
  rw [if_neg h, ih (i + 1), Bool.eq_false_iff.2 h]; simp
theorem badIdx_ge (l : List Int) : decide (0 ≤ badIdx 0 l) = l.any badP := by
 rw [Bool.eq_iff_iff, decide_eq_true_eq]; exact badIdx_iff l 0
theorem ContainsFunc_bad (A0 : Option Addr) (c0 : Nat) (l0 : List Int) (w : World) (hr0 : Kd.C (Kd.int .i64) w A0 l0.length l0) (hc0 : l0.length ≤ c0) :
  Calls Try.prog 122 #[.slice A0 l0.length c0, .func (.func 123) #[] #[]] w fun e w' => e = .returned (.bool (l0.any badP)) ∧ Drawn0 w w' := by
 have HR0 := Aside0.mk hr0
 have HC0 := Aside0.mk hc0
 have HB := Aside0.mk (badIdx_ge l0)
 clear hr0 hc0
 go_enter Try.func122, Try.ntmps122
 go_wp2_with (first | (go_at_call 126; (with_reducible refine (IndexFunc_bad _ _ l0 _ HR0.out HC0.out).mono ?_); rintro e w' ⟨rfl, ⟨nd, rfl⟩⟩))
 repeat (go_quiet (first | (go_at_call 126; (with_reducible refine (IndexFunc_bad _ _ l0 _ HR0.out HC0.out).mono ?_); rintro e w' ⟨rfl, ⟨nd, rfl⟩⟩)); try go_wp2)
 go_ret
 exact ⟨by rw [← HB.out]; rfl, by repeat (first | exact Drawn0.refl _ | apply Drawn0.step)⟩
def residue_bad.f (a0 : List Int) : Option Bool := some (a0.any badP)
theorem residue_bad.calls (A0 : Option Addr) (c0 : Nat) (l0 : List Int) (r : Bool) (w : World) (hr0 : Kd.C (Kd.int .i64) w A0 l0.length l0) (hc0 : l0.length ≤ c0) (h : residue_bad.f l0 = some r) :
  Calls Try.prog 115 #[.slice A0 l0.length c0] w fun e w' => e = .returned (.bool r) ∧ Drawn0 w w' := by
 have HR0 := Aside0.mk hr0
 have HC0 := Aside0.mk hc0
 clear hr0 hc0
 obtain rfl := Option.some.inj h
 go_enter Try.func115, Try.ntmps115
 go_wp2_with (first | (go_at_call 122; (with_reducible refine (ContainsFunc_bad _ _ l0 _ HR0.out HC0.out).mono ?_); rintro e w' ⟨rfl, ⟨nd, rfl⟩⟩))
 go_ret
 exact ⟨rfl, by repeat (first | exact Drawn0.refl _ | apply Drawn0.step)⟩
end Go.Proofs.Ytalnaafmonmlmaa.Q
end
section
namespace Go.Proofs.Ytalnaafmonmlmaa.Q
open Go.RowKit Go.Proofs.YtalnaafmonmlmaaW.PrintWords Go.Proofs.YtalnaafmonmlmaaW.PrintLast Go.Proofs.YtalnaafmonmlmaaW.PrintMore
attribute [local go_sem] max2_int min2_int max_two min_two max_three min_three max_four min_four
set_option linter.unusedVariables false
set_option linter.unusedSimpArgs false
set_option maxHeartbeats 8000000
set_option maxRecDepth 100000
def TInv (w0 w : World) (Bn Bo : Nat) (n : Int) (xs : List S107) : Prop :=
 w0.heap.size ≤ Bn ∧ w0.heap.size ≤ Bo ∧ w.heap[Bn]? = some (.cells #[.int .i64 n] 3 (0, 0)) ∧ (∃ v, w.heap[Bo]? = some (.cells #[v] 103 (0, 0)) ∧ Kd.R k107 107 w w0.heap.size (fun _ => True) v xs) ∧ Below w0.heap.size w0 w
theorem TInv.drewN {w0 w : World} {Bn Bo : Nat} {n : Int} {xs : List S107} (h : TInv w0 w Bn Bo n xs) (m : Nat) : TInv w0 (w.drewN m) Bn Bo n xs := by
 obtain ⟨h1, h2, h3, ⟨v, h4, h5⟩, h6⟩ := h
 exact ⟨h1, h2, h3, ⟨v, h4, Kd.R_drewN h5 m⟩, pw_below_drewN h6 m⟩
theorem TInv.ne {w0 w : World} {Bn Bo : Nat} {n : Int} {xs : List S107} (h : TInv w0 w Bn Bo n xs) : Bo ≠ Bn := by
 obtain ⟨h1, h2, h3, ⟨v, h4, h5⟩, h6⟩ := h
 rintro rfl
 rw [h3] at h4
 injection h4 with h4
 injection h4 with _ h4
 exact absurd h4 (by decide)
theorem TInv.setN {w0 w : World} {Bn Bo : Nat} {n : Int} {xs : List S107} (h : TInv w0 w Bn Bo n xs) (m : Int) : TInv w0 (w.setCell ⟨Bn, 0, none⟩ (.int .i64 m)) Bn Bo m xs := by
 have hne := h.ne
 obtain ⟨h1, h2, h3, ⟨v, h4, h5⟩, h6⟩ := h
 exact ⟨h1, h2, one_setCell h3, ⟨v, by rw [Below.heap_setCell _ _ _ _ hne]; exact h4, Kd.R_set h5 h3 (by intro q hq; simp [k107, Kd.iso, Kd.pair, Kd.int, Kd.scalar] at hq; omega) 0 _⟩, h6.setCell h1 _⟩
theorem TInv.append {w0 w w1 : World} {Bn Bo : Nat} {n : Int} {xs ys : List S107} {v v1 : Value} (h1 : w0.heap.size ≤ Bn) (h2 : w0.heap.size ≤ Bo) (h3 : w.heap[Bn]? = some (.cells #[.int .i64 n] 3 (0, 0))) (h4 : w.heap[Bo]? = some (.cells #[v] 103 (0, 0))) (h5 : Kd.R k107 107 w w0.heap.size (fun _ => True) v xs)
  (ho : Kd.R k107 107 w1 w0.heap.size (fun _ => True) v1 ys) (hb : Below w0.heap.size w0 w1) (hg : w.grownBy w1 v.ownBlock) :
  w1.heap[Bo]? = some (.cells #[v] 103 (0, 0)) ∧ TInv w0 (w1.setCell ⟨Bo, 0, none⟩ v1) Bn Bo n ys := by
 have hne : Bo ≠ Bn := by
  rintro rfl
  rw [h3] at h4
  injection h4 with h4
  injection h4 with _ h4
  exact absurd h4 (by decide)
 have e1 : w1.heap[Bn]? = some (.cells #[.int .i64 n] 3 (0, 0)) := (hg.block Bn (lt_of_block h3) (Kd.R_ne h5 h3 (by decide))).trans h3
 have e2 : w1.heap[Bo]? = some (.cells #[v] 103 (0, 0)) := (hg.block Bo (lt_of_block h4) (Kd.R_ne h5 h4 (by decide))).trans h4
 exact ⟨e2, h1, h2, by rw [Below.heap_setCell _ _ _ _ (fun e => hne e.symm)]; exact e1, ⟨v1, one_setCell e2, Kd.R_set ho e2 (by intro q hq; simp [k107, Kd.iso, Kd.pair, Kd.int, Kd.scalar] at hq; omega) 0 _⟩, hb.setCell h2 _⟩
def tryL : Nat → Int → Int → Int → Option (Int × Int)
 | 0, _, _, _ => none
 | k + 1, d, n, c => if d = 0 then none else if Int.tmod n d = 0 then tryL k d (wrap64 (Int.tdiv n d)) (wrap64 (c + 1)) else some (n, c)
def tryF (k : Nat) (d n : Int) (xs : List S107) : Option (Int × List S107) := (tryL k d n 0).bind fun r => if r.2 > 0 then (if xs.length < 8796093022208 then some (r.1, xs ++ [⟨d, r.2⟩]) else none) else some (r.1, xs)
theorem try_calls (k : Nat) (d n n' : Int) (xs xs' : List S107) (Bn Bo : Nat) (w0 w : World) (hI : TInv w0 w Bn Bo n xs) (h : tryF k d n xs = some (n', xs')) :
  Calls Try.prog 124 #[.int .i64 d, .pointer (some ⟨Bn, 0, none⟩), .pointer (some ⟨Bo, 0, none⟩)] w fun e w' => e = .returned (.tuple #[]) ∧ TInv w0 w' Bn Bo n' xs' := by
 have hu107 := Try.underlying107
 obtain ⟨⟨m, cnt⟩, hL, hE⟩ := Option.bind_eq_some_iff.mp h
 clear h
 have HL := Aside0.mk hL
 have HE := Aside0.mk hE
 have HI := Aside0.mk hI
 clear hL hE hI
 go_enter Try.func124, Try.ntmps124
 go_wp2
 repeat (go_quiet (fail); try go_wp2)
 go_loopg [4] k (fun kq v4 w' => ∃ (c n1 : Int), v4 = .int .i64 c ∧ Aside0 (tryL kq d n1 c = some (m, cnt)) ∧ Aside0 (TInv w0 w' Bn Bo n1 xs))
 case atStart => exact ⟨0, n, zX, HL, ⟨by (with_reducible repeat (first | exact HI.out | apply TInv.drewN))⟩⟩
 case round =>
  clear HL HI
  obtain ⟨c, n1, rfl, HA, HI⟩ := hrel
  cases gk with
  | zero => exact absurd HA.out (by simp [tryL])
  | succ k1 =>
   have H := HA.out
   clear HA
   simp only [tryL] at H
   have hcell := cell_of_one HI.out.2.2.1
   have hfree := free_of_one HI.out.2.2.1
   by_cases c1 : d = 0
   ·rw [if_pos c1] at H; cases H
   rw [if_neg c1] at H
   obtain ⟨c1b0, c1b1⟩ := zU c1
   by_cases c2 : Int.tmod n1 d = 0
   ·rw [if_pos c2] at H
    obtain ⟨c2b0, c2b1⟩ := zE c2; clear c2
    have H' := Aside0.mk H
    clear H
    go_wp2
    repeat (go_quiet (fail); try go_wp2)
    go_roundg k1
    case measure => omega
    case rel => exact ⟨(wrap64 (c + 1)), (wrap64 (Int.tdiv n1 d)), zX, H', ⟨by (with_reducible repeat (first | exact HI.out | apply TInv.drewN | apply TInv.setN))⟩⟩
   rw [if_neg c2] at H
   obtain ⟨c2b0, c2b1⟩ := zU c2
   clear c2
   obtain ⟨rfl, rfl⟩ : n1 = m ∧ c = cnt := by injection H with H; injection H with H1 H2; exact ⟨H1, H2⟩
   clear H
   have HE2 := HE.out
   clear HE
   obtain ⟨h1, h2, h3, ⟨v, h4, h5⟩, h6⟩ := HI.out
   have hcell2 := cell_of_one h4
   have hfree2 := free_of_one h4
   have hso := h6.size
   by_cases c3 : c > 0
   rotate_left
   ·rw [if_neg c3] at HE2
    have c3b0 : decide (0 < c) = false := decide_eq_false c3
    obtain ⟨rfl, rfl⟩ : n1 = n' ∧ xs = xs' := by injection HE2 with H; injection H with H1 H2; exact ⟨H1, H2⟩
    clear HE2
    clear c3 h1 h2 h3 h4 h5 h6
    go_wp2
    repeat (go_quiet (fail); try go_wp2)
    go_end0
    exact ⟨rfl, by (with_reducible repeat (first | exact HI.out | apply TInv.drewN))⟩
   rw [if_pos c3] at HE2
   have c3b0 := decide_eq_true c3; clear c3
   by_cases c4 : xs.length < 8796093022208
   rotate_left
   ·rw [if_neg c4] at HE2; cases HE2
   rw [if_pos c4] at HE2
   obtain ⟨rfl, rfl⟩ : n1 = n' ∧ xs ++ [⟨d, c⟩] = xs' := by injection HE2 with H; injection H with H1 H2; exact ⟨H1, H2⟩
   clear HE2
   have LM := Aside0.mk c4
   have H3 := Aside0.mk h3
   have H4 := Aside0.mk h4
   have H5 := Aside0.mk h5
   have H6 := Aside0.mk h6
   have H1 := Aside0.mk h1
   have H2 := Aside0.mk h2
   clear c4 h3 h4 h5 h6 h1 h2 HI hso
   go_wp2_with (first | ((with_reducible refine gate_builtin (b := .append) (xs := #[.tmp 16, .tmp 20]) rfl ?_); at_builtin; refine Kd.R_append k107 (w0 := w0) w0.heap.size rfl (.tmp 16) (.tmp 20) 103 107 (.agg #[(.int .i64 0), (.int .i64 0)]) 16 rfl Try.underlying103 info107 rfl (by decide) (by omega) v xs (⟨d, c⟩ : S107) [.int .i64 d, .int .i64 c] (fun _ => True) (fun _ => False) rfl rfl ?aP (fun _ hk => hk.elim) ?aF ?aO ?aB ?aS ?aL ?_; (case aP => exact k107_mkM _ _ _ (⟨d, c⟩ : S107)); (case aB => exact H6.out); (case aF => exact (fun _ _ => trivial)); (case aO => exact H5.out); (case aS => exact H6.out.size); (case aL => have := LM.out; omega); intro v255 w9 ho hb hg hat; obtain ⟨A1, cc1, rfl⟩ := Kd.R_slice ho; obtain ⟨he2, hT⟩ := TInv.append H1.out H2.out H3.out H4.out H5.out ho hb hg; have HT := Aside0.mk hT; clear hT ho hb hg hat; have hcell9 := cell_of_one he2; have hfree9 := free_of_one he2; clear he2))
   go_end0
   have HT2 := HT.out
   rw [List.length_append, List.length_singleton] at HT2
   exact ⟨rfl, HT2⟩
def residue_factor.l0 (kk : Nat) : Nat → Int → List S107 → Int → Option (List S107)
 | 0, _, _, _ => none
 | k + 1, n, xs, d => if wrap64 (d * d) ≤ n then (tryF kk d n xs).bind fun r => residue_factor.l0 kk k r.1 r.2 (wrap64 (d + 2)) else if n > 1 then (tryF kk n n xs).bind fun r => some r.2 else some xs
def residue_factor.f (k : Nat) (a0 : Int) : Option (List S107) := (tryF k 2 a0 []).bind fun r => residue_factor.l0 k k r.1 r.2 3
theorem tryL_mono : ∀ k d n c, LeO (tryL k d n c) (tryL (k + 1) d n c)
 | 0 => fun _ _ _ r h => by simp [tryL] at h
 | k + 1 => by
  intro d n c
  have ih0 := tryL_mono k
  unfold tryL
  with_reducible repeat' first | exact ih0 _ _ _ | exact LeO.refl _ | refine LeO.ite ?_ ?_
theorem tryF_mono (k : Nat) (d n : Int) (xs : List S107) : LeO (tryF k d n xs) (tryF (k + 1) d n xs) := LeO.bind (tryL_mono k d n 0) (fun _ => LeO.refl _)
theorem residue_factor.mono_l (kk : Nat) : ∀ k n xs d, LeO (residue_factor.l0 kk k n xs d) (residue_factor.l0 (kk + 1) (k + 1) n xs d)
 | 0 => fun _ _ _ r h => by simp [residue_factor.l0] at h
 | k + 1 => by
  intro n xs d
  have ih0 := residue_factor.mono_l kk k
  have ih1 := tryF_mono kk
  unfold residue_factor.l0
  with_reducible repeat' first | exact ih0 _ _ _ | exact ih1 _ _ _ | exact LeO.refl _ | refine LeO.ite ?_ ?_ | refine LeO.bind ?_ (fun _ => ?_)
theorem residue_factor.mono (a0 : Int) (k : Nat) : LeO (residue_factor.f k a0) (residue_factor.f (k + 1) a0) := LeO.bind (tryF_mono k 2 a0 []) (fun _ => residue_factor.mono_l k k _ _ _)
theorem residue_factor.calls (k : Nat) (a0 : Int) (r : List S107) (w : World) (h : residue_factor.f k a0 = some r) :
  Calls Try.prog 116 #[.int .i64 a0] w fun e w' => ∃ v0_ : Value, e = .returned (v0_) ∧ Kd.R k107 107 w' w.heap.size (fun _ => True) v0_ r ∧ Below w.heap.size w w' := by
 have hu107 := Try.underlying107
 obtain ⟨⟨n1, xs1⟩, hF, hL⟩ := Option.bind_eq_some_iff.mp h
 clear h
 have HF := Aside0.mk hF
 have HL := Aside0.mk hL
 clear hF hL
 have hmf : ∀ (fn : Fn) (first cap : Array Value) (w : World), (Instr.makeFunc fn first cap).run Try.prog w = .ok (.func fn first cap) w := fun _ _ _ _ => rfl
 have hI0 : Aside0 (TInv w ((w.alloc (Obj.cells #[Value.int IntKind.i64 a0] 3)).alloc (Obj.cells #[Value.slice none 0 0] 103)) w.heap.size (w.heap.size + 1) a0 []) := by
  refine ⟨Nat.le_refl _, Nat.le_succ _, ?_, ⟨.slice none 0 0, ?_, Kd.R_nil _ _ _ _ _⟩, below_alloc (below_alloc (Below.refl _ _) _) _⟩
  ·rw [Below.heap_alloc _ _ _ (by simp)]; exact heap_alloc_new w _
  have := heap_alloc_new (w.alloc (Obj.cells #[Value.int IntKind.i64 a0] 3)) (Obj.cells #[Value.slice none 0 0] 103)
  simpa using this
 go_enter Try.func116, Try.ntmps116
 go_wp2_with (first | (go_at_call 124; refine (try_calls k 2 a0 n1 [] xs1 w.heap.size (w.heap.size + 1) w _ hI0.out HF.out).mono ?_; rintro e w1 ⟨rfl, hT⟩; have HT := Aside0.mk hT; clear hT))
 clear hI0 HF
 go_loopg [5] k (fun kq v5 w' => ∃ (n : Int) (xs : List S107) (d : Int), v5 = .int .i64 d ∧ Aside0 (residue_factor.l0 k kq n xs d = some r) ∧ Aside0 (TInv w w' w.heap.size (w.heap.size + 1) n xs))
 case atStart => exact ⟨n1, xs1, 3, zX, HL, HT⟩
 case round =>
  clear HL HT
  obtain ⟨n, xs, d, rfl, HA, HI⟩ := hrel
  cases gk with
  | zero => exact absurd HA.out (by simp [residue_factor.l0])
  | succ k1 =>
   have H := HA.out
   clear HA
   simp only [residue_factor.l0] at H
   have hcell := cell_of_one HI.out.2.2.1
   by_cases c1 : wrap64 (d * d) ≤ n
   ·rw [if_pos c1] at H
    obtain ⟨⟨n2, xs2⟩, hF2, hL2⟩ := Option.bind_eq_some_iff.mp H
    have HF2 := Aside0.mk hF2
    have H' := Aside0.mk hL2
    clear H hF2 hL2
    have c1b0 := decide_eq_true c1; clear c1
    go_wp2_with (first | (go_at_call 124; refine (try_calls k d n n2 xs xs2 w.heap.size (w.heap.size + 1) w _ (by (with_reducible repeat (first | exact HI.out | apply TInv.drewN))) HF2.out).mono ?_; rintro e w1 ⟨rfl, hT⟩; have HT := Aside0.mk hT; clear hT))
    go_roundg k1
    case measure => omega
    case rel => exact ⟨n2, xs2, (wrap64 (d + 2)), zX, H', HT⟩
   rw [if_neg c1] at H
   have c1b0 := decide_eq_false c1; clear c1
   by_cases c2 : n > 1
   rotate_left
   ·rw [if_neg c2] at H
    obtain rfl := Option.some.inj H
    clear H
    have c2b0 := decide_eq_false c2; clear c2
    obtain ⟨h1, h2, h3, ⟨v, h4, h5⟩, h6⟩ := HI.out
    obtain ⟨A1, cc1, rfl⟩ := Kd.R_slice h5
    have HR := Aside0.mk h5
    have HB := Aside0.mk h6
    have hcell2 := cell_of_one h4
    clear h1 h2 h3 h4 h5 h6
    go_wp2
    go_ret
    exact ⟨_, rfl, HR.out, HB.out⟩
   rw [if_pos c2] at H
   obtain ⟨⟨n2, xs2⟩, hF2, hL2⟩ := Option.bind_eq_some_iff.mp H
   obtain rfl := Option.some.inj hL2
   have HF2 := Aside0.mk hF2
   clear H hF2 hL2
   have c2b0 := decide_eq_true c2; clear c2
   go_wp2_with (first | (go_at_call 124; refine (try_calls k n n n2 xs xs2 w.heap.size (w.heap.size + 1) w _ (by (with_reducible repeat (first | exact HI.out | apply TInv.drewN))) HF2.out).mono ?_; rintro e w1 ⟨rfl, hT⟩; obtain ⟨h1, h2, h3, ⟨v, h4, h5⟩, h6⟩ := hT; obtain ⟨A1, cc1, rfl⟩ := Kd.R_slice h5; have HR := Aside0.mk h5; have HB := Aside0.mk h6; have hcell2 := cell_of_one h4; clear h1 h2 h3 h4 h5 h6))
   go_ret
   exact ⟨_, rfl, HR.out, HB.out⟩
end Go.Proofs.Ytalnaafmonmlmaa.Q
end
section
namespace Go.Proofs.Ytalnaafmonmlmaa.Q
open Go.RowKit Go.Proofs.YtalnaafmonmlmaaW.PrintWords Go.Proofs.YtalnaafmonmlmaaW.PrintLast Go.Proofs.YtalnaafmonmlmaaW.PrintMore
attribute [local go_sem] max2_int min2_int max_two min_two max_three min_three max_four min_four
set_option linter.unusedVariables false
set_option linter.unusedSimpArgs false
set_option maxHeartbeats 8000000
set_option maxRecDepth 100000
def residue_prime.f (k : Nat) (a0 : Int) : Option (Bool) := (residue_factor.f k a0).bind fun t101 => (if (t101.length : Int) = 1 then (if 0 < (t101.length : Int) then (some (((rd_T107 t101 0).f1) == 1)) else (none)) else (some false))
theorem residue_prime.mono : ∀ a0 k, LeO (residue_prime.f k a0) (residue_prime.f (k + 1) a0) := by
 intro a0 k
 unfold residue_prime.f
 with_reducible repeat' first | exact residue_factor.mono _ _ | exact LeO.refl _ | exact LeO.none _ | refine LeO.ite ?_ ?_ | refine LeO.bind ?_ (fun _ => ?_)
theorem residue_prime.calls (k : Nat) (a0 : Int) (r : Bool) (w : World) (h : residue_prime.f k a0 = some r) :
  Calls Try.prog 118 #[.int .i64 a0] w fun e w' => e = .returned (.bool r) ∧ Below w.heap.size w w' := by
 have HB := Aside0.mk (Below.refl w.heap.size w)
 have H := h; clear h; unfold residue_prime.f at H
 obtain ⟨t101, A2, H⟩ := zO H
 by_cases c3 : (t101.length : Int) = 1
 rotate_left
 ·rw [if_neg c3] at H
  obtain ⟨c3b0, c3b1⟩ := zU c3
  obtain rfl := Option.some.inj H
  go_enter Try.func118, Try.ntmps118
  go_wp2_with (first | ((with_reducible refine gate_callee (f := 116) rfl ?_); refine zG (some 5) Try.func116 #[.int .i64 a0] ?_; (with_reducible refine (residue_factor.calls k a0 t101 _ A2.out).mono ?_); rintro e w7 ⟨v102, rfl, ho0, hb⟩; refine ⟨_, rfl, ?_⟩; have HO103 := Aside0.mk (Kd.R_lower ho0 (zS HB)); replace HB := zBb HB hb; (try clear hb); (try clear ho0); obtain ⟨Ao8, co8, eo8⟩ := Kd.R_slice HO103.out; subst eo8))
  go_ret
  exact ⟨zQ, zT⟩
 rw [if_pos c3] at H
 obtain ⟨c3b0, c3b1⟩ := zE c3; clear c3
 by_cases c4 : 0 < (t101.length : Int)
 rotate_left
 ·rw [if_neg c4] at H
  exact absurd H (by simp)
 rw [if_pos c4] at H
 have c4b0 : decide (0 < (t101.length : Int)) = true := decide_eq_true c4
 have c4b1 : decide (0 < t101.length) = true := decide_eq_true (by omega)
 clear c4
 obtain rfl := Option.some.inj H
 go_enter Try.func118, Try.ntmps118
 go_wp2_with (first | ((with_reducible refine gate_callee (f := 116) rfl ?_); refine zG (some 5) Try.func116 #[.int .i64 a0] ?_; (with_reducible refine (residue_factor.calls k a0 t101 _ A2.out).mono ?_); rintro e w5 ⟨v102, rfl, ho0, hb⟩; refine ⟨_, rfl, ?_⟩; have HO103 := Aside0.mk (Kd.R_lower ho0 (zS HB)); replace HB := zBb HB hb; (try clear hb); (try clear ho0); obtain ⟨Ao6, co6, eo6⟩ := Kd.R_slice HO103.out; subst eo6; have p104 : 0 ≤ (0 : Int) := (by omega); have q104 : 0 < (t101.length : Int) := zD; obtain ⟨ad104, e104, hx104_0, hx104_1⟩ := at_T107 (Kd.R_reads' HO103.out).2.2 0 p104 q104; cases e104; have qi104 : (0 < t101.length) = True := eq_true (by omega); (try rw [show ((0 : Int)).toNat = 0 from rfl] at hx104_0); (try rw [show 0 * 2 = 0 from rfl] at hx104_0); (try rw [Addr.add_zero'] at hx104_0); (try rw [show ((0 : Int)).toNat = 0 from rfl] at hx104_1); (try rw [show 0 * 2 = 0 from rfl] at hx104_1); (try rw [Addr.add_zero'] at hx104_1); replace p104 := eq_true p104; replace q104 := eq_true q104))
 go_ret
 exact ⟨zQ, zT⟩
end Go.Proofs.Ytalnaafmonmlmaa.Q
end
section
namespace Go.Proofs.Ytalnaafmonmlmaa.Q
open Go.RowKit Go.Proofs.YtalnaafmonmlmaaW.PrintWords Go.Proofs.YtalnaafmonmlmaaW.PrintLast Go.Proofs.YtalnaafmonmlmaaW.PrintMore
attribute [local go_sem] max2_int min2_int max_two min_two max_three min_three max_four min_four
set_option linter.unusedVariables false
set_option linter.unusedSimpArgs false
set_option maxHeartbeats 8000000
set_option maxRecDepth 100000
def residue_IsPrime.f (k : Nat) (a0 : Int) : Option (Bool × Int) := (residue_bad.f (([a0] : List Int))).bind fun t104 => (if t104 = true then (some (false, 3)) else ((residue_prime.f k a0).bind fun t105 => (some (t105, 0))))
theorem residue_IsPrime.mono : ∀ a0 k, LeO (residue_IsPrime.f k a0) (residue_IsPrime.f (k + 1) a0) := by
 intro a0 k
 unfold residue_IsPrime.f
 with_reducible repeat' first | exact residue_prime.mono _ _ | exact LeO.refl _ | exact LeO.none _ | refine LeO.ite ?_ ?_ | refine LeO.bind ?_ (fun _ => ?_)
theorem residue_IsPrime.calls (k : Nat) (a0 : Int) (r1 : Bool) (r2 : Int) (w : World) (h : residue_IsPrime.f k a0 = some (r1, r2)) :
  Calls Try.prog 104 #[.int .i64 a0] w fun e w' => e = .returned (.tuple #[.bool r1, .int .i64 r2]) ∧ Below w.heap.size w w' := by
 have HB := Aside0.mk (Below.refl w.heap.size w)
 have H := h; clear h; unfold residue_IsPrime.f at H
 obtain ⟨y101, Ny101⟩ := zA ((([a0] : List Int)) : List Int); rw [← Ny101.out] at H
 obtain ⟨t104, A2, H⟩ := zO H
 by_cases c3 : t104 = true
 ·subst c3
  rw [if_pos rfl] at H
  simp only [Option.some.injEq, Prod.mk.injEq] at H
  obtain ⟨rfl, rfl⟩ := H
  go_enter Try.func104, Try.ntmps104
  go_wp2_with (first | ((with_reducible refine gate_dst (N := 5) rfl ?_); refine Kd.R_lit (Kd.int .i64) _ 3 ?hg (N := 5) ?hd (xs := ([a0] : List Int)) (inner := [.int .i64 a0]) (ok := fun _ => True) (okp := fun _ => True) ?hr ?hp (fun _ hk => hk) trivial (Below.refl _ _) (Nat.le_refl _) (by simp) ?_; (case hd => rfl); (case hg => rfl); (case hr => go_simp <;> rfl); (case hp => exact (Reps.one (show Kd.M (Kd.int .i64) _ _ _ a0 [.int .i64 a0] from rfl) (Reps.none _ _))); intro v102 w4 ho5 hb hg_ hnew_; clear hg_ hnew_; (first | rw [← Ny101.out] at ho5 | (simp only [Int.reduceToNat] at ho5; rw [← Ny101.out] at ho5)); have HO103 := Aside0.mk (Kd.R_lower ho5 (zS HB)); replace HB := zBb HB hb; clear hb ho5; obtain ⟨Ao6, co6, eo6⟩ := Kd.R_slice HO103.out; subst eo6) | ((with_reducible refine gate_callee (f := 115) rfl ?_); refine zG (some 6) Try.func115 #[.slice Ao6 y101.length co6] ?_; (with_reducible refine (residue_bad.calls _ _ y101 true _ ?side1 ?side2 A2.out).mono ?_); (case side1 => exact zC ((Kd.R_reads' HO103.out).2.2)); (case side2 => exact (Kd.R_reads' HO103.out).2.1); rintro e w' ⟨rfl, ⟨nd, rfl⟩⟩; refine ⟨_, rfl, ?_⟩))
  go_ret2
  exact ⟨zQ, zT⟩
 replace c3 := Bool.eq_false_iff.mpr c3
 subst c3
 rw [if_neg Bool.false_ne_true] at H
 obtain ⟨t105, A7, H⟩ := zO H
 simp only [Option.some.injEq, Prod.mk.injEq] at H
 obtain ⟨rfl, rfl⟩ := H
 go_enter Try.func104, Try.ntmps104
 go_wp2_with (first | ((with_reducible refine gate_dst (N := 5) rfl ?_); refine Kd.R_lit (Kd.int .i64) _ 3 ?hg (N := 5) ?hd (xs := ([a0] : List Int)) (inner := [.int .i64 a0]) (ok := fun _ => True) (okp := fun _ => True) ?hr ?hp (fun _ hk => hk) trivial (Below.refl _ _) (Nat.le_refl _) (by simp) ?_; (case hd => rfl); (case hg => rfl); (case hr => go_simp <;> rfl); (case hp => exact (Reps.one (show Kd.M (Kd.int .i64) _ _ _ a0 [.int .i64 a0] from rfl) (Reps.none _ _))); intro v102 w8 ho9 hb hg_ hnew_; clear hg_ hnew_; (first | rw [← Ny101.out] at ho9 | (simp only [Int.reduceToNat] at ho9; rw [← Ny101.out] at ho9)); have HO103 := Aside0.mk (Kd.R_lower ho9 (zS HB)); replace HB := zBb HB hb; clear hb ho9; obtain ⟨Ao10, co10, eo10⟩ := Kd.R_slice HO103.out; subst eo10) | ((with_reducible refine gate_callee (f := 115) rfl ?_); refine zG (some 6) Try.func115 #[.slice Ao10 y101.length co10] ?_; (with_reducible refine (residue_bad.calls _ _ y101 false _ ?side1 ?side2 A2.out).mono ?_); (case side1 => exact zC ((Kd.R_reads' HO103.out).2.2)); (case side2 => exact (Kd.R_reads' HO103.out).2.1); rintro e w' ⟨rfl, ⟨nd, rfl⟩⟩; refine ⟨_, rfl, ?_⟩) | ((with_reducible refine gate_callee (f := 118) rfl ?_); refine zG (some 8) Try.func118 #[.int .i64 a0] ?_; (with_reducible refine (residue_prime.calls k a0 t105 _ A7.out).mono ?_); rintro e w11 ⟨rfl, hb⟩; refine ⟨_, rfl, ?_⟩; replace HO103 := zRb HO103 hb; replace HB := zBb HB hb; (try clear hb)))
 go_ret2
 exact ⟨zQ, zT⟩
end Go.Proofs.Ytalnaafmonmlmaa.Q
end
section
namespace Go.Proofs.Ytalnaafmonmlmaa.Q
open Go.RowKit Go.Proofs.YtalnaafmonmlmaaW.PrintWords Go.Proofs.YtalnaafmonmlmaaW.PrintLast Go.Proofs.YtalnaafmonmlmaaW.PrintMore
attribute [local go_sem] max2_int min2_int max_two min_two max_three min_three max_four min_four
set_option linter.unusedVariables false
set_option linter.unusedSimpArgs false
set_option maxHeartbeats 8000000
set_option maxRecDepth 100000
def galoisref09_Same.l0 : Nat → List Int → List Int → Int → Option (Bool)
 | 0, _, _, _ => none
 | k + 1, x0, x1, x5 => if x5 < (x0.length : Int) then (if 0 ≤ x5 then (if x5 < (x1.length : Int) then (if (rd x0 x5) = (rd x1 x5) then (galoisref09_Same.l0 k x0 x1 (wrap64 (x5 + 1))) else (some false)) else (none)) else (none)) else (some true)
def galoisref09_Same.f (k : Nat) (l0 : List Int) (l1 : List Int) : Option (Bool) := if (l0.length : Int) = (l1.length : Int) then (galoisref09_Same.l0 k l0 l1 0) else (some false)
theorem galoisref09_Same.mono_l : ∀ k, (∀ y0 y1 y2, LeO (galoisref09_Same.l0 k y0 y1 y2) (galoisref09_Same.l0 (k + 1) y0 y1 y2))
 | 0 => fun _ _ _ r h => by simp [galoisref09_Same.l0] at h
 | k + 1 => by
  have ih0 := galoisref09_Same.mono_l k
  intro y0 y1 y2
  unfold galoisref09_Same.l0
  with_reducible repeat' first | exact ih0 _ _ _ | exact LeO.refl _ | exact LeO.none _ | refine LeO.ite ?_ ?_ | refine LeO.bind ?_ (fun _ => ?_)
theorem galoisref09_Same.mono : ∀ a0 a1 k, LeO (galoisref09_Same.f k a0 a1) (galoisref09_Same.f (k + 1) a0 a1) := by
 intro a0 a1 k
 have ih0 := galoisref09_Same.mono_l k
 unfold galoisref09_Same.f
 with_reducible repeat' first | exact ih0 _ _ _ | exact LeO.refl _ | exact LeO.none _ | refine LeO.ite ?_ ?_ | refine LeO.bind ?_ (fun _ => ?_)
theorem galoisref09_Same.calls (k : Nat) (A0 : Option Addr) (c0 : Nat) (l0 : List Int) (A1 : Option Addr) (c1 : Nat) (l1 : List Int) (r : Bool) (w : World) (hr0 : Kd.C (Kd.int .i64) w A0 l0.length l0) (hc0 : l0.length ≤ c0) (hr1 : Kd.C (Kd.int .i64) w A1 l1.length l1) (hc1 : l1.length ≤ c1) (h : galoisref09_Same.f k l0 l1 = some r) :
  Calls Try.prog 19 #[.slice A0 l0.length c0, .slice A1 l1.length c1] w fun e w' => e = .returned (.bool r) ∧ Drawn0 w w' := by
 have HR0 := Aside0.mk hr0
 have HC0 := Aside0.mk hc0
 clear hr0 hc0
 have HR1 := Aside0.mk hr1
 have HC1 := Aside0.mk hc1
 clear hr1 hc1
 have H := h; clear h; unfold galoisref09_Same.f at H
 by_cases c3 : (l0.length : Int) = (l1.length : Int)
 rotate_left
 ·rw [if_neg c3] at H
  obtain ⟨c3b0, c3b1⟩ := zU c3
  have c3b2 : (l0.length == l1.length) = false := by first | simpa using c3 | (simp at c3 ⊢; omega)
  obtain rfl := Option.some.inj H
  go_enter Try.func19, Try.ntmps19
  go_wp2
  repeat (go_quiet (fail); try go_wp2)
  go_ret
  exact ⟨by first | rfl | (simp; done) | (simp [*]; done), by repeat (first | exact Drawn0.refl _ | apply Drawn0.step)⟩
 rw [if_pos c3] at H
 obtain ⟨c3b0, c3b1⟩ := zE c3
 have c3b2 : (l0.length == l1.length) = true := by first | simpa using c3 | (simp at c3 ⊢; omega)
 clear c3
 have H' := Aside0.mk H
 clear H
 go_enter Try.func19, Try.ntmps19
 go_wp2
 repeat (go_quiet (fail); try go_wp2)
 go_loopg [5] k (fun kq v5 w' => ∃ (x5_1 : Int), v5 = .int .i64 x5_1 ∧ Aside0 (galoisref09_Same.l0 kq l0 l1 x5_1 = some r) ∧ Aside0 (kq ≤ k) ∧ Drawn0 w w')
 case atStart => exact ⟨(0), zX, H', ⟨Nat.le_refl _⟩, by repeat (first | exact Drawn0.refl _ | apply Drawn0.step)⟩
 case round =>
  clear H'
  try clear c1; try clear p2; try clear c3; try clear c3b0; try clear c3b1; try clear c3b2
  obtain ⟨x5_1, rfl, HA, HK1, ⟨m1, rfl⟩⟩ := hrel
  cases gk with
  | zero => exact absurd HA.out (by simp [galoisref09_Same.l0])
  | succ k1 =>
   have H := HA.out
   clear HA
   simp only [galoisref09_Same.l0] at H
   by_cases c4 : x5_1 < (l0.length : Int)
   rotate_left
   ·rw [if_neg c4] at H
    have c4b0 := decide_eq_false c4; clear c4
    obtain rfl := Option.some.inj H
    go_wp2
    repeat (go_quiet (fail); try go_wp2)
    go_ret
    exact ⟨by first | rfl | (simp; done) | (simp [*]; done), by repeat (first | exact Drawn0.refl _ | apply Drawn0.step)⟩
   rw [if_pos c4] at H
   have c4b0 := decide_eq_true c4; clear c4
   by_cases c5 : 0 ≤ x5_1
   rotate_left
   ·rw [if_neg c5] at H
    exact absurd H (by simp)
   rw [if_pos c5] at H
   have c5b0 := decide_eq_true c5; clear c5
   by_cases c6 : x5_1 < (l1.length : Int)
   rotate_left
   ·rw [if_neg c6] at H
    exact absurd H (by simp)
   rw [if_pos c6] at H
   have c6b0 := decide_eq_true c6; clear c6
   by_cases c7 : (rd l0 x5_1) = (rd l1 x5_1)
   rotate_left
   ·rw [if_neg c7] at H
    obtain ⟨c7b0, c7b1⟩ := zU c7
    obtain rfl := Option.some.inj H
    obtain ⟨p101, q101, ad101, e101, hx101_0⟩ := zI (HR0.out) (x5_1) zD zD
    cases e101
    obtain ⟨p102, q102, ad102, e102, hx102_0⟩ := zI (HR1.out) (x5_1) zD zD
    cases e102
    go_wp2
    repeat (go_quiet (fail); try go_wp2)
    go_ret
    exact ⟨by first | rfl | (simp; done) | (simp [*]; done), by repeat (first | exact Drawn0.refl _ | apply Drawn0.step)⟩
   rw [if_pos c7] at H
   obtain ⟨c7b0, c7b1⟩ := zE c7; clear c7
   have H' := Aside0.mk H
   clear H
   obtain ⟨p101, q101, ad101, e101, hx101_0⟩ := zI (HR0.out) (x5_1) zD zD
   cases e101
   obtain ⟨p102, q102, ad102, e102, hx102_0⟩ := zI (HR1.out) (x5_1) zD zD
   cases e102
   go_wp2
   repeat (go_quiet (fail); try go_wp2)
   go_roundg k1
   case measure => have := HK1.out; omega
   case rel => exact ⟨(wrap64 (x5_1 + 1)), zX, H', ⟨by have := HK1.out; omega⟩, by repeat (first | exact Drawn0.refl _ | apply Drawn0.step)⟩
end Go.Proofs.Ytalnaafmonmlmaa.Q
end
section
namespace Go.Proofs.Ytalnaafmonmlmaa.Q
open Go.RowKit Go.Proofs.YtalnaafmonmlmaaW.PrintWords Go.Proofs.YtalnaafmonmlmaaW.PrintLast Go.Proofs.YtalnaafmonmlmaaW.PrintMore
attribute [local go_sem] max2_int min2_int max_two min_two max_three min_three max_four min_four
set_option linter.unusedVariables false
set_option linter.unusedSimpArgs false
set_option maxHeartbeats 8000000
set_option maxRecDepth 100000
def polymod_prime.j0 : Nat → Int → Bool → Option (Int)
 | 0, _, _ => none
 | k + 1, x0, x10 => if x10 = true then (some 7) else ((residue_IsPrime.f k x0).bind fun bt101 => (if bt101.2 = 0 then (if bt101.1 = true then (some 0) else (some 7)) else (some 7)))
def polymod_prime.f (k : Nat) (a0 : Int) : Option (Int) := if a0 < 2 then (polymod_prime.j0 k a0 true) else (polymod_prime.j0 k a0 (decide (a0 > 65521)))
theorem polymod_prime.mono_l : ∀ k, (∀ y0 y1, LeO (polymod_prime.j0 k y0 y1) (polymod_prime.j0 (k + 1) y0 y1))
 | 0 => fun _ _ r h => by simp [polymod_prime.j0] at h
 | k + 1 => by
  have ih0 := polymod_prime.mono_l k
  intro y0 y1
  unfold polymod_prime.j0
  with_reducible repeat' first | exact ih0 _ _ | exact residue_IsPrime.mono _ _ | exact LeO.refl _ | exact LeO.none _ | refine LeO.ite ?_ ?_ | refine LeO.bind ?_ (fun _ => ?_)
theorem polymod_prime.mono : ∀ a0 k, LeO (polymod_prime.f k a0) (polymod_prime.f (k + 1) a0) := by
 intro a0 k
 have ih0 := polymod_prime.mono_l k
 unfold polymod_prime.f
 with_reducible repeat' first | exact ih0 _ _ | exact residue_IsPrime.mono _ _ | exact LeO.refl _ | exact LeO.none _ | refine LeO.ite ?_ ?_ | refine LeO.bind ?_ (fun _ => ?_)
theorem polymod_prime.calls (k : Nat) (a0 : Int) (r : Int) (w : World) (h : polymod_prime.f k a0 = some r) :
  Calls Try.prog 80 #[.int .i64 a0] w fun e w' => e = .returned (.int .i64 r) ∧ Below w.heap.size w w' := by
 have HB := Aside0.mk (Below.refl w.heap.size w)
 have H := h; clear h; unfold polymod_prime.f at H
 have HC2 := Aside0.mk H
 clear H
 go_enter Try.func80, Try.ntmps80
 go_upto_region 1 with (fail)
 go_cut [10] (fun v10 wc => ∃ (kq : Nat) (x10_1 : Bool), v10 = .bool x10_1 ∧ Aside0 (polymod_prime.j0 kq a0 x10_1 = some r) ∧ Aside0 (kq ≤ k) ∧ Aside0 (Below w.heap.size w wc))
 case first =>
  have H := HC2.out
  clear HC2
  by_cases c3 : a0 < 2
  ·rw [if_pos c3] at H
   have c3b0 := decide_eq_true c3; clear c3
   (first | rw [c3b0] | (simp only [i64_w, i32_w]; rw [c3b0]) | skip)
   have H' := Aside0.mk H
   clear H
   go_wp2
   go_meet
   case rel => exact ⟨_, (true), zX, H', ⟨by first | omega | exact Nat.le_refl _⟩, ⟨zT⟩⟩
  rw [if_neg c3] at H
  have c3b0 := decide_eq_false c3; clear c3
  (first | rw [c3b0] | (simp only [i64_w, i32_w]; rw [c3b0]) | skip)
  have H' := Aside0.mk H
  clear H
  go_wp2
  go_meet
  case rel => exact ⟨_, (decide (a0 > 65521)), zX, H', ⟨by first | omega | exact Nat.le_refl _⟩, ⟨zT⟩⟩
 case rest =>
  clear HC2
  try clear p2; try clear c3; try clear c3b0
  obtain ⟨kq, x10_1, rfl, HA, HJ1, HB⟩ := hcut
  cases kq with
  | zero => exact absurd HA.out (by simp [polymod_prime.j0])
  | succ kj1 =>
   have H := HA.out
   clear HA
   simp only [polymod_prime.j0] at H
   by_cases c4 : x10_1 = true
   ·subst c4
    rw [if_pos rfl] at H
    obtain rfl := Option.some.inj H
    go_wp2
    go_ret
    exact ⟨zQ, zT⟩
   replace c4 := Bool.eq_false_iff.mpr c4
   subst c4
   rw [if_neg Bool.false_ne_true] at H
   obtain ⟨⟨t101, t102⟩, A5, H⟩ := zO H; try dsimp only at H
   by_cases c6 : t102 = 0
   rotate_left
   ·rw [if_neg c6] at H
    obtain ⟨c6b0, c6b1⟩ := zU c6
    obtain rfl := Option.some.inj H
    go_wp2_with (first | ((with_reducible refine gate_callee (f := 104) rfl ?_); refine zG (some 13) Try.func104 #[.int .i64 a0] ?_; (with_reducible refine (residue_IsPrime.calls kj1 a0 t101 t102 _ A5.out).mono ?_); rintro e w10 ⟨rfl, hb⟩; refine ⟨_, rfl, ?_⟩; replace HB := zBb HB hb; (try clear hb)))
    go_ret
    exact ⟨zQ, zT⟩
   rw [if_pos c6] at H
   obtain ⟨c6b0, c6b1⟩ := zE c6; clear c6
   by_cases c7 : t101 = true
   ·subst c7
    rw [if_pos rfl] at H
    obtain rfl := Option.some.inj H
    go_wp2_with (first | ((with_reducible refine gate_callee (f := 104) rfl ?_); refine zG (some 13) Try.func104 #[.int .i64 a0] ?_; (with_reducible refine (residue_IsPrime.calls kj1 a0 true t102 _ A5.out).mono ?_); rintro e w8 ⟨rfl, hb⟩; refine ⟨_, rfl, ?_⟩; replace HB := zBb HB hb; (try clear hb)))
    go_ret
    exact ⟨zQ, zT⟩
   replace c7 := Bool.eq_false_iff.mpr c7
   subst c7
   rw [if_neg Bool.false_ne_true] at H
   obtain rfl := Option.some.inj H
   go_wp2_with (first | ((with_reducible refine gate_callee (f := 104) rfl ?_); refine zG (some 13) Try.func104 #[.int .i64 a0] ?_; (with_reducible refine (residue_IsPrime.calls kj1 a0 false t102 _ A5.out).mono ?_); rintro e w9 ⟨rfl, hb⟩; refine ⟨_, rfl, ?_⟩; replace HB := zBb HB hb; (try clear hb)))
   go_ret
   exact ⟨zQ, zT⟩
end Go.Proofs.Ytalnaafmonmlmaa.Q
end
section
namespace Go.Proofs.Ytalnaafmonmlmaa.Q
open Go.RowKit Go.Proofs.YtalnaafmonmlmaaW.PrintWords Go.Proofs.YtalnaafmonmlmaaW.PrintLast Go.Proofs.YtalnaafmonmlmaaW.PrintMore
attribute [local go_sem] max2_int min2_int max_two min_two max_three min_three max_four min_four
set_option linter.unusedVariables false
set_option linter.unusedSimpArgs false
set_option maxHeartbeats 8000000
set_option maxRecDepth 100000
def badC (p x : Int) : Bool := decide (x < 0) || decide (p ≤ x)
def badCIdx (p : Int) : Nat → List Int → Int
 | _, [] => -1
 | i, x :: xs => if badC p x = true then (i : Int) else badCIdx p (i + 1) xs
theorem badC_calls (p x : Int) (B : Nat) (w : World) (hB : w.heap[B]? = some (.cells #[.int .i64 p] 3 (0, 0))) : Calls Try.prog 82 #[.int .i64 x, .pointer (some ⟨B, 0, none⟩)] w fun e w' => e = .returned (.bool (badC p x)) ∧ Drawn0 w w' := by
 have hcell := cell_of_one hB
 have hfree := free_of_one hB
 clear hB
 by_cases h1 : x < 0
 ·have b : badC p x = true := by simp [badC, h1]
  have B' := Aside0.mk b
  clear b
  go_enter Try.func82, Try.ntmps82
  go_wp2
  repeat (go_quiet (fail); try go_wp2)
  go_ret
  rw [B'.out]
  exact ⟨rfl, by repeat (first | exact Drawn0.refl _ | apply Drawn0.step)⟩
 have b : badC p x = decide (p ≤ x) := by simp [badC, h1]
 have B' := Aside0.mk b
 clear b
 go_enter Try.func82, Try.ntmps82
 go_wp2
 repeat (go_quiet (fail); try go_wp2)
 go_ret
 rw [B'.out]
 exact ⟨rfl, by repeat (first | exact Drawn0.refl _ | apply Drawn0.step)⟩
theorem badCIdx_step (p : Int) (l : List Int) (i : Nat) (h : i < l.length) : badCIdx p i (l.drop i) = if badC p (l.getD i 0) = true then (i : Int) else badCIdx p (i + 1) (l.drop (i + 1)) := by
 rw [List.drop_eq_getElem_cons h]
 simp only [badCIdx, List.getD_eq_getElem?_getD, List.getElem?_eq_getElem h, Option.getD_some]
theorem IndexFunc_badC (p : Int) (B : Nat) (A0 : Option Addr) (c0 : Nat) (l0 : List Int) (w : World) (hB : w.heap[B]? = some (.cells #[.int .i64 p] 3 (0, 0))) (hr0 : Kd.C (Kd.int .i64) w A0 l0.length l0) (hc0 : l0.length ≤ c0) :
  Calls Try.prog 105 #[.slice A0 l0.length c0, .func (.func 82) #[] #[.pointer (some ⟨B, 0, none⟩)]] w fun e w' => e = .returned (.int .i64 (badCIdx p 0 l0)) ∧ Drawn0 w w' := by
 have hmax := hr0.2.1
 have HR0 := Aside0.mk hr0
 have HC0 := Aside0.mk hc0
 have HB := Aside0.mk hB
 clear hr0 hc0 hB
 go_enter Try.func105, Try.ntmps105
 go_wp2
 repeat (go_quiet (fail); try go_wp2)
 go_loopg [8] l0.length (fun kq v8 w' => ∃ (x : Int), v8 = .int .i64 x ∧ Aside0 (0 ≤ x ∧ x + kq = l0.length ∧ badCIdx p 0 l0 = badCIdx p x.toNat (l0.drop x.toNat)) ∧ Drawn0 w w')
 case atStart => exact ⟨0, zX, ⟨by omega, by simp, by simp⟩, by repeat (first | exact Drawn0.refl _ | apply Drawn0.step)⟩
 case round =>
  obtain ⟨x, rfl, HA, ⟨m1, rfl⟩⟩ := hrel
  obtain ⟨hx0, hxk, hidx⟩ := HA.out
  have HI := Aside0.mk hidx
  clear hidx HA
  cases gk with
  | zero =>
   have c4b0 : decide (x < (l0.length : Int)) = false := decide_eq_false (by omega)
   have HE : Aside0 (badCIdx p 0 l0 = -1) := ⟨by rw [HI.out, List.drop_eq_nil_of_le (by omega)]; rfl⟩
   clear hxk
   go_wp2
   repeat (go_quiet (fail); try go_wp2)
   go_ret
   rw [HE.out]
   exact ⟨rfl, by repeat (first | exact Drawn0.refl _ | apply Drawn0.step)⟩
  | succ k1 =>
   have q257 : x < (l0.length : Int) := by omega
   have c4b0 : decide (x < (l0.length : Int)) = true := decide_eq_true q257
   have HS := Aside0.mk (badCIdx_step p l0 x.toNat (by omega))
   have HK := Aside0.mk hxk
   clear hxk
   obtain ⟨ad257, e257, hx257_0⟩ := Kd.at_int HR0.out x hx0 q257
   cases e257
   have HRD := Aside0.mk (show rd l0 x = l0.getD x.toNat 0 from rfl)
   replace hx0 := eq_true hx0
   replace q257 := eq_true q257
   cases hb : badC p (rd l0 x) with
   | true =>
    have HE : Aside0 (badCIdx p 0 l0 = x) := ⟨by rw [HI.out, HS.out, if_pos (by rw [← HRD.out]; exact hb)]; have := of_eq_true hx0; omega⟩
    have HBb := Aside0.mk hb
    clear hb
    go_wp2_with (first | (go_at_call 82; refine (badC_calls p _ B _ (by (with_reducible repeat (first | exact HB.out | refine blk_drewN ?_ _ | refine blk_drew ?_)))).mono ?_; rintro e w' ⟨rfl, ⟨nd, rfl⟩⟩; rw [HBb.out]))
    go_ret
    rw [HE.out]
    exact ⟨rfl, by repeat (first | exact Drawn0.refl _ | apply Drawn0.step)⟩
   | false =>
    have HE : Aside0 (badCIdx p 0 l0 = badCIdx p (x.toNat + 1) (l0.drop (x.toNat + 1))) := ⟨by rw [HI.out, HS.out, if_neg (by rw [← HRD.out, hb]; simp)]⟩
    have HBb := Aside0.mk hb
    clear hb
    go_wp2_with (first | (go_at_call 82; refine (badC_calls p _ B _ (by (with_reducible repeat (first | exact HB.out | refine blk_drewN ?_ _ | refine blk_drew ?_)))).mono ?_; rintro e w' ⟨rfl, ⟨nd, rfl⟩⟩; rw [HBb.out]))
    go_roundg k1
    case measure => omega
    case rel => exact ⟨x + 1, by rw [show wrap64 (x + 1) = x + 1 by have := of_eq_true hx0; have := HK.out; unfold wrap64; omega], ⟨by have := of_eq_true hx0; omega, by have := HK.out; omega, by rw [HE.out, show (x + 1).toNat = x.toNat + 1 by have := of_eq_true hx0; omega]⟩, by repeat (first | exact Drawn0.refl _ | apply Drawn0.step)⟩
theorem badCIdx_iff (p : Int) (l : List Int) : ∀ i, 0 ≤ badCIdx p i l ↔ l.any (badC p) = true := by
 induction l with
 | nil => intro i; simp [badCIdx]
 | cons x xs ih =>
  intro i
  have e : badCIdx p i (x :: xs) = if badC p x = true then (i : Int) else badCIdx p (i + 1) xs := rfl
  rw [e, List.any_cons]
  by_cases h : badC p x = true
  ·rw [if_pos h, h]; simp
  rw [if_neg h, ih (i + 1), Bool.eq_false_iff.2 h]; simp
theorem badCIdx_ge (p : Int) (l : List Int) : decide (0 ≤ badCIdx p 0 l) = l.any (badC p) := by
 rw [Bool.eq_iff_iff, decide_eq_true_eq]; exact badCIdx_iff p l 0
theorem ContainsFunc_badC (p : Int) (B : Nat) (A0 : Option Addr) (c0 : Nat) (l0 : List Int) (w : World) (hB : w.heap[B]? = some (.cells #[.int .i64 p] 3 (0, 0))) (hr0 : Kd.C (Kd.int .i64) w A0 l0.length l0) (hc0 : l0.length ≤ c0) :
  Calls Try.prog 81 #[.slice A0 l0.length c0, .func (.func 82) #[] #[.pointer (some ⟨B, 0, none⟩)]] w fun e w' => e = .returned (.bool (l0.any (badC p))) ∧ Drawn0 w w' := by
 have HR0 := Aside0.mk hr0
 have HC0 := Aside0.mk hc0
 have HB := Aside0.mk hB
 have HG := Aside0.mk (badCIdx_ge p l0)
 clear hr0 hc0 hB
 go_enter Try.func81, Try.ntmps81
 go_wp2_with (first | (go_at_call 105; (with_reducible refine (IndexFunc_badC p B _ _ l0 _ HB.out HR0.out HC0.out).mono ?_); rintro e w' ⟨rfl, ⟨nd, rfl⟩⟩))
 repeat (go_quiet (first | (go_at_call 105; (with_reducible refine (IndexFunc_badC p B _ _ l0 _ HB.out HR0.out HC0.out).mono ?_); rintro e w' ⟨rfl, ⟨nd, rfl⟩⟩)); try go_wp2)
 go_ret
 exact ⟨by rw [← HG.out]; rfl, by repeat (first | exact Drawn0.refl _ | apply Drawn0.step)⟩
def polymod_Check.g (a0 : Int) (l1 : List Int) : Int := if l1.length > 65 then 4 else if l1.any (badC a0) = true then 1 else if (l1.length : Int) > 0 then (if rd l1 (wrap64 ((l1.length : Int) - 1)) = 0 then 1 else 0) else 0
def polymod_Check.f (k : Nat) (a0 : Int) (l1 : List Int) : Option Int := (polymod_prime.f k a0).bind fun e => if e = 0 then some (polymod_Check.g a0 l1) else some e
theorem polymod_Check.mono (a0 : Int) (l1 : List Int) (k : Nat) : LeO (polymod_Check.f k a0 l1) (polymod_Check.f (k + 1) a0 l1) := LeO.bind (polymod_prime.mono a0 k) (fun _ => LeO.refl _)
theorem polymod_Check.calls (k : Nat) (a0 : Int) (A1 : Option Addr) (c1 : Nat) (l1 : List Int) (r : Int) (w : World) (hr1 : Kd.C (Kd.int .i64) w A1 l1.length l1) (hc1 : l1.length ≤ c1) (h : polymod_Check.f k a0 l1 = some r) :
  Calls Try.prog 45 #[.int .i64 a0, .slice A1 l1.length c1] w fun e w' => e = .returned (.int .i64 r) ∧ Below w.heap.size w w' := by
 obtain ⟨e, hp, hE⟩ := Option.bind_eq_some_iff.mp h
 clear h
 have hmf : ∀ (fn : Fn) (first cap : Array Value) (w : World), (Instr.makeFunc fn first cap).run Try.prog w = .ok (.func fn first cap) w := fun _ _ _ _ => rfl
 have hmax := hr1.2.1
 have HR1 := Aside0.mk hr1
 have HC1 := Aside0.mk hc1
 have HP := Aside0.mk hp
 have HB0 : Aside0 ((w.alloc (Obj.cells #[Value.int IntKind.i64 a0] 3)).heap[w.heap.size]? = some (.cells #[.int .i64 a0] 3 (0, 0))) := ⟨heap_alloc_new w _⟩
 have HBel : Aside0 (Below w.heap.size w (w.alloc (Obj.cells #[Value.int IntKind.i64 a0] 3))) := ⟨below_alloc (Below.refl _ _) _⟩
 have hcell := cell_of_one HB0.out
 have hfree := free_of_one HB0.out
 have HSZ : Aside0 (w.heap.size < (w.alloc (Obj.cells #[Value.int IntKind.i64 a0] 3)).heap.size) := ⟨by simp⟩
 clear hr1 hc1 hp
 by_cases he : e = 0
 rotate_left
 ·rw [if_neg he] at hE
  obtain rfl := Option.some.inj hE
  clear hE
  have c1b0 : (e != 0) = true := bne_iff_ne.mpr he
  have c1b1 : (e == 0) = false := beq_eq_false_iff_ne.mpr he
  go_enter Try.func45, Try.ntmps45
  go_wp2_with (first | (go_at_call 80; (with_reducible refine (polymod_prime.calls k a0 e _ HP.out).mono ?_); rintro e w1 ⟨rfl, hb1⟩; have HB1 := Aside0.mk hb1; clear hb1))
  go_ret
  exact ⟨rfl, below_then HBel.out (Nat.le_of_lt HSZ.out) HB1.out⟩
 subst he
 rw [if_pos rfl] at hE
 obtain rfl := Option.some.inj hE
 clear hE
 have h0r : (0 != 0) = false := rfl
 by_cases c65 : l1.length > 65
 ·have HG : Aside0 (polymod_Check.g a0 l1 = 4) := ⟨by unfold polymod_Check.g; rw [if_pos c65]⟩
  have c5b0 : decide ((65 : Int) < (l1.length : Int)) = true := decide_eq_true (by omega)
  clear c65
  rw [HG.out]
  go_enter Try.func45, Try.ntmps45
  go_wp2_with (first | (go_at_call 80; (with_reducible refine (polymod_prime.calls k a0 0 _ HP.out).mono ?_); rintro e w1 ⟨rfl, hb1⟩; have HB1 := Aside0.mk hb1; have HBK := Aside0.mk (blk_below HB0.out hb1); have HR2 := Aside0.mk (Kd.C_below (Kd.C_alloc HR1.out _) hb1); clear hb1) | (go_at_call 81; (with_reducible refine (ContainsFunc_badC a0 w.heap.size _ _ l1 _ (by (with_reducible repeat (first | exact HBK.out | refine blk_drewN ?_ _ | refine blk_drew ?_))) (by (with_reducible repeat (first | exact HR2.out | apply Kd.C_drewN | apply Kd.C_drew))) HC1.out).mono ?_); rintro e w' ⟨rfl, ⟨nd, rfl⟩⟩; rw [HAN.out]))
  repeat (go_quiet (first | (go_at_call 80; (with_reducible refine (polymod_prime.calls k a0 0 _ HP.out).mono ?_); rintro e w1 ⟨rfl, hb1⟩; have HB1 := Aside0.mk hb1; have HBK := Aside0.mk (blk_below HB0.out hb1); have HR2 := Aside0.mk (Kd.C_below (Kd.C_alloc HR1.out _) hb1); clear hb1) | (go_at_call 81; (with_reducible refine (ContainsFunc_badC a0 w.heap.size _ _ l1 _ (by (with_reducible repeat (first | exact HBK.out | refine blk_drewN ?_ _ | refine blk_drew ?_))) (by (with_reducible repeat (first | exact HR2.out | apply Kd.C_drewN | apply Kd.C_drew))) HC1.out).mono ?_); rintro e w' ⟨rfl, ⟨nd, rfl⟩⟩; rw [HAN.out])); try go_wp2)
  go_ret
  exact ⟨rfl, by repeat (first | (with_reducible first | exact below_then HBel.out (Nat.le_of_lt HSZ.out) HB1.out | apply pw_below_drewN | apply below_drew1) | exact below_then HBel.out (Nat.le_of_lt HSZ.out) HB1.out)⟩
 have c5b0 : decide ((65 : Int) < (l1.length : Int)) = false := decide_eq_false (by omega)
 cases han : l1.any (badC a0) with
 | true =>
  have HG : Aside0 (polymod_Check.g a0 l1 = 1) := ⟨by unfold polymod_Check.g; rw [if_neg c65, if_pos han]⟩
  have HAN := Aside0.mk han
  clear c65 han
  rw [HG.out]
  go_enter Try.func45, Try.ntmps45
  go_wp2_with (first | (go_at_call 80; (with_reducible refine (polymod_prime.calls k a0 0 _ HP.out).mono ?_); rintro e w1 ⟨rfl, hb1⟩; have HB1 := Aside0.mk hb1; have HBK := Aside0.mk (blk_below HB0.out hb1); have HR2 := Aside0.mk (Kd.C_below (Kd.C_alloc HR1.out _) hb1); clear hb1) | (go_at_call 81; (with_reducible refine (ContainsFunc_badC a0 w.heap.size _ _ l1 _ (by (with_reducible repeat (first | exact HBK.out | refine blk_drewN ?_ _ | refine blk_drew ?_))) (by (with_reducible repeat (first | exact HR2.out | apply Kd.C_drewN | apply Kd.C_drew))) HC1.out).mono ?_); rintro e w' ⟨rfl, ⟨nd, rfl⟩⟩; rw [HAN.out]))
  repeat (go_quiet (first | (go_at_call 80; (with_reducible refine (polymod_prime.calls k a0 0 _ HP.out).mono ?_); rintro e w1 ⟨rfl, hb1⟩; have HB1 := Aside0.mk hb1; have HBK := Aside0.mk (blk_below HB0.out hb1); have HR2 := Aside0.mk (Kd.C_below (Kd.C_alloc HR1.out _) hb1); clear hb1) | (go_at_call 81; (with_reducible refine (ContainsFunc_badC a0 w.heap.size _ _ l1 _ (by (with_reducible repeat (first | exact HBK.out | refine blk_drewN ?_ _ | refine blk_drew ?_))) (by (with_reducible repeat (first | exact HR2.out | apply Kd.C_drewN | apply Kd.C_drew))) HC1.out).mono ?_); rintro e w' ⟨rfl, ⟨nd, rfl⟩⟩; rw [HAN.out])); try go_wp2)
  go_ret
  exact ⟨rfl, by repeat (first | (with_reducible first | exact below_then HBel.out (Nat.le_of_lt HSZ.out) HB1.out | apply pw_below_drewN | apply below_drew1) | exact below_then HBel.out (Nat.le_of_lt HSZ.out) HB1.out)⟩
 | false =>
  by_cases c0 : (l1.length : Int) > 0
  rotate_left
  ·have c6b0 : decide ((0 : Int) < (l1.length : Int)) = false := decide_eq_false c0
   have c6n : (0 < l1.length) = False := eq_false (by omega)
   have HG : Aside0 (polymod_Check.g a0 l1 = 0) := ⟨by unfold polymod_Check.g; rw [if_neg c65, if_neg (by rw [han]; simp), if_neg c0]⟩
   have HAN := Aside0.mk han
   clear c65 han c0
   rw [HG.out]
   go_enter Try.func45, Try.ntmps45
   go_wp2_with (first | (go_at_call 80; (with_reducible refine (polymod_prime.calls k a0 0 _ HP.out).mono ?_); rintro e w1 ⟨rfl, hb1⟩; have HB1 := Aside0.mk hb1; have HBK := Aside0.mk (blk_below HB0.out hb1); have HR2 := Aside0.mk (Kd.C_below (Kd.C_alloc HR1.out _) hb1); clear hb1) | (go_at_call 81; (with_reducible refine (ContainsFunc_badC a0 w.heap.size _ _ l1 _ (by (with_reducible repeat (first | exact HBK.out | refine blk_drewN ?_ _ | refine blk_drew ?_))) (by (with_reducible repeat (first | exact HR2.out | apply Kd.C_drewN | apply Kd.C_drew))) HC1.out).mono ?_); rintro e w' ⟨rfl, ⟨nd, rfl⟩⟩; rw [HAN.out]))
   repeat (go_quiet (first | (go_at_call 80; (with_reducible refine (polymod_prime.calls k a0 0 _ HP.out).mono ?_); rintro e w1 ⟨rfl, hb1⟩; have HB1 := Aside0.mk hb1; have HBK := Aside0.mk (blk_below HB0.out hb1); have HR2 := Aside0.mk (Kd.C_below (Kd.C_alloc HR1.out _) hb1); clear hb1) | (go_at_call 81; (with_reducible refine (ContainsFunc_badC a0 w.heap.size _ _ l1 _ (by (with_reducible repeat (first | exact HBK.out | refine blk_drewN ?_ _ | refine blk_drew ?_))) (by (with_reducible repeat (first | exact HR2.out | apply Kd.C_drewN | apply Kd.C_drew))) HC1.out).mono ?_); rintro e w' ⟨rfl, ⟨nd, rfl⟩⟩; rw [HAN.out])); try go_wp2)
   go_ret
   exact ⟨rfl, by repeat (first | (with_reducible first | exact below_then HBel.out (Nat.le_of_lt HSZ.out) HB1.out | apply pw_below_drewN | apply below_drew1) | exact below_then HBel.out (Nat.le_of_lt HSZ.out) HB1.out)⟩
  have c6b0 : decide ((0 : Int) < (l1.length : Int)) = true := decide_eq_true c0
  have c6n : (0 < l1.length) = True := eq_true (by omega)
  obtain ⟨ji, hji⟩ : ∃ j_ : Int, wrap64 ((l1.length : Int) - 1) = j_ := ⟨_, rfl⟩
  have hjiw : (IntKind.i64.wrap ((l1.length : Int) - 1)) = ji := (i64_w _).trans hji
  have hj0 : 0 ≤ ji := by rw [← hji]; unfold wrap64; omega
  have hj1 : ji < (l1.length : Int) := by rw [← hji]; unfold wrap64; omega
  by_cases cz : rd l1 ji = 0
  ·have HG : Aside0 (polymod_Check.g a0 l1 = 1) := ⟨by unfold polymod_Check.g; rw [if_neg c65, if_neg (by rw [han]; simp), if_pos c0, hji, if_pos cz]⟩
   have HAN := Aside0.mk han
   have c7b0 : (rd l1 ji == 0) = true := beq_iff_eq.mpr cz
   have HJ0 := Aside0.mk hj0
   have HJ1 := Aside0.mk hj1
   replace hj0 := eq_true hj0
   replace hj1 := eq_true hj1
   clear c65 han cz c0
   rw [HG.out]
   go_enter Try.func45, Try.ntmps45
   go_wp2_with (first | (go_at_call 80; (with_reducible refine (polymod_prime.calls k a0 0 _ HP.out).mono ?_); rintro e w1 ⟨rfl, hb1⟩; have HB1 := Aside0.mk hb1; have HBK := Aside0.mk (blk_below HB0.out hb1); have HR2 := Aside0.mk (Kd.C_below (Kd.C_alloc HR1.out _) hb1); clear hb1; obtain ⟨adx, ex, hx⟩ := Kd.at_int HR2.out ji HJ0.out HJ1.out; cases ex) | (go_at_call 81; (with_reducible refine (ContainsFunc_badC a0 w.heap.size _ _ l1 _ (by (with_reducible repeat (first | exact HBK.out | refine blk_drewN ?_ _ | refine blk_drew ?_))) (by (with_reducible repeat (first | exact HR2.out | apply Kd.C_drewN | apply Kd.C_drew))) HC1.out).mono ?_); rintro e w' ⟨rfl, ⟨nd, rfl⟩⟩; rw [HAN.out]))
   repeat (go_quiet (first | (go_at_call 80; (with_reducible refine (polymod_prime.calls k a0 0 _ HP.out).mono ?_); rintro e w1 ⟨rfl, hb1⟩; have HB1 := Aside0.mk hb1; have HBK := Aside0.mk (blk_below HB0.out hb1); have HR2 := Aside0.mk (Kd.C_below (Kd.C_alloc HR1.out _) hb1); clear hb1; obtain ⟨adx, ex, hx⟩ := Kd.at_int HR2.out ji HJ0.out HJ1.out; cases ex) | (go_at_call 81; (with_reducible refine (ContainsFunc_badC a0 w.heap.size _ _ l1 _ (by (with_reducible repeat (first | exact HBK.out | refine blk_drewN ?_ _ | refine blk_drew ?_))) (by (with_reducible repeat (first | exact HR2.out | apply Kd.C_drewN | apply Kd.C_drew))) HC1.out).mono ?_); rintro e w' ⟨rfl, ⟨nd, rfl⟩⟩; rw [HAN.out])); try go_wp2)
   go_ret
   exact ⟨rfl, by repeat (first | (with_reducible first | exact below_then HBel.out (Nat.le_of_lt HSZ.out) HB1.out | apply pw_below_drewN | apply below_drew1) | exact below_then HBel.out (Nat.le_of_lt HSZ.out) HB1.out)⟩
  have HG : Aside0 (polymod_Check.g a0 l1 = 0) := ⟨by unfold polymod_Check.g; rw [if_neg c65, if_neg (by rw [han]; simp), if_pos c0, hji, if_neg cz]⟩
  have HAN := Aside0.mk han
  have c7b0 : (rd l1 ji == 0) = false := beq_eq_false_iff_ne.mpr cz
  have HJ0 := Aside0.mk hj0
  have HJ1 := Aside0.mk hj1
  replace hj0 := eq_true hj0
  replace hj1 := eq_true hj1
  clear c65 han cz c0
  rw [HG.out]
  go_enter Try.func45, Try.ntmps45
  go_wp2_with (first | (go_at_call 80; (with_reducible refine (polymod_prime.calls k a0 0 _ HP.out).mono ?_); rintro e w1 ⟨rfl, hb1⟩; have HB1 := Aside0.mk hb1; have HBK := Aside0.mk (blk_below HB0.out hb1); have HR2 := Aside0.mk (Kd.C_below (Kd.C_alloc HR1.out _) hb1); clear hb1; obtain ⟨adx, ex, hx⟩ := Kd.at_int HR2.out ji HJ0.out HJ1.out; cases ex) | (go_at_call 81; (with_reducible refine (ContainsFunc_badC a0 w.heap.size _ _ l1 _ (by (with_reducible repeat (first | exact HBK.out | refine blk_drewN ?_ _ | refine blk_drew ?_))) (by (with_reducible repeat (first | exact HR2.out | apply Kd.C_drewN | apply Kd.C_drew))) HC1.out).mono ?_); rintro e w' ⟨rfl, ⟨nd, rfl⟩⟩; rw [HAN.out]))
  repeat (go_quiet (first | (go_at_call 80; (with_reducible refine (polymod_prime.calls k a0 0 _ HP.out).mono ?_); rintro e w1 ⟨rfl, hb1⟩; have HB1 := Aside0.mk hb1; have HBK := Aside0.mk (blk_below HB0.out hb1); have HR2 := Aside0.mk (Kd.C_below (Kd.C_alloc HR1.out _) hb1); clear hb1; obtain ⟨adx, ex, hx⟩ := Kd.at_int HR2.out ji HJ0.out HJ1.out; cases ex) | (go_at_call 81; (with_reducible refine (ContainsFunc_badC a0 w.heap.size _ _ l1 _ (by (with_reducible repeat (first | exact HBK.out | refine blk_drewN ?_ _ | refine blk_drew ?_))) (by (with_reducible repeat (first | exact HR2.out | apply Kd.C_drewN | apply Kd.C_drew))) HC1.out).mono ?_); rintro e w' ⟨rfl, ⟨nd, rfl⟩⟩; rw [HAN.out])); try go_wp2)
  go_ret
  exact ⟨rfl, by repeat (first | (with_reducible first | exact below_then HBel.out (Nat.le_of_lt HSZ.out) HB1.out | apply pw_below_drewN | apply below_drew1) | exact below_then HBel.out (Nat.le_of_lt HSZ.out) HB1.out)⟩
end Go.Proofs.Ytalnaafmonmlmaa.Q
end
section
namespace Go.Proofs.Ytalnaafmonmlmaa.Q
open Go.RowKit Go.Proofs.YtalnaafmonmlmaaW.PrintWords Go.Proofs.YtalnaafmonmlmaaW.PrintLast Go.Proofs.YtalnaafmonmlmaaW.PrintMore
attribute [local go_sem] max2_int min2_int max_two min_two max_three min_three max_four min_four
set_option linter.unusedVariables false
set_option linter.unusedSimpArgs false
set_option maxHeartbeats 8000000
set_option maxRecDepth 100000
def finitefield_Check.j0 : Nat → Bool → Int → List Int → Option (Int)
 | 0, _, _, _ => none
 | k + 1, x20, x102000, x102001 => if x20 = true then (some 1) else ((fp_Irreducible.f k x102000 x102001).bind fun t104 => (if t104 = true then (some 0) else (some 8)))
def finitefield_Check.f (k : Nat) (a0_0 : Int) (l0_1 : List Int) : Option (Int) := (polymod_Check.f k a0_0 l0_1).bind fun t102 => (if t102 = 0 then (if (wrap64 ((l0_1.length : Int) - 1)) > 16 then (some 4) else (if (wrap64 ((l0_1.length : Int) - 1)) < 1 then (finitefield_Check.j0 k true a0_0 l0_1) else (if 0 ≤ (wrap64 ((l0_1.length : Int) - 1)) then (if (wrap64 ((l0_1.length : Int) - 1)) < (l0_1.length : Int) then (finitefield_Check.j0 k ((rd l0_1 (wrap64 ((l0_1.length : Int) - 1))) != 1) a0_0 l0_1) else (none)) else (none)))) else (some t102))
theorem finitefield_Check.mono_l : ∀ k, (∀ y0 y1 y2, LeO (finitefield_Check.j0 k y0 y1 y2) (finitefield_Check.j0 (k + 1) y0 y1 y2))
 | 0 => fun _ _ _ r h => by simp [finitefield_Check.j0] at h
 | k + 1 => by
  have ih0 := finitefield_Check.mono_l k
  intro y0 y1 y2
  unfold finitefield_Check.j0
  with_reducible repeat' first | exact ih0 _ _ _ | exact fp_Irreducible.mono _ _ _ | exact polymod_Check.mono _ _ _ | exact LeO.refl _ | exact LeO.none _ | refine LeO.ite ?_ ?_ | refine LeO.bind ?_ (fun _ => ?_)
theorem finitefield_Check.mono : ∀ a0 a1 k, LeO (finitefield_Check.f k a0 a1) (finitefield_Check.f (k + 1) a0 a1) := by
 intro a0 a1 k
 have ih0 := finitefield_Check.mono_l k
 unfold finitefield_Check.f
 with_reducible repeat' first | exact ih0 _ _ _ | exact fp_Irreducible.mono _ _ _ | exact polymod_Check.mono _ _ _ | exact LeO.refl _ | exact LeO.none _ | refine LeO.ite ?_ ?_ | refine LeO.bind ?_ (fun _ => ?_)
theorem finitefield_Check.calls (k : Nat) (a0_0 : Int) (A0_1 : Option Addr) (c0_1 : Nat) (l0_1 : List Int) (r : Int) (w : World) (hr0_1 : Kd.C (Kd.int .i64) w A0_1 l0_1.length l0_1) (hc0_1 : l0_1.length ≤ c0_1) (h : finitefield_Check.f k a0_0 l0_1 = some r) :
  Calls Try.prog 23 #[.agg #[.int .i64 a0_0, .slice A0_1 l0_1.length c0_1]] w fun e w' => e = .returned (.int .i64 r) ∧ Below w.heap.size w w' := by
 have hu33 := Try.underlying33
 have HR0_1 := Aside0.mk hr0_1
 have HC0_1 := Aside0.mk hc0_1
 clear hr0_1 hc0_1
 have HB := Aside0.mk (Below.refl w.heap.size w)
 have H := h; clear h; unfold finitefield_Check.f at H
 obtain ⟨t102, A2, H⟩ := zO H
 by_cases c3 : t102 = 0
 rotate_left
 ·rw [if_neg c3] at H
  obtain ⟨c3b0, c3b1⟩ := zU c3
  obtain rfl := Option.some.inj H
  go_enter Try.func23, Try.ntmps23
  go_wp2_with (first | ((with_reducible refine gate_dst (N := 1) rfl ?_); refine zb 1 #[.int .i64 a0_0, .slice A0_1 l0_1.length c0_1] 33 ?_; intro gb101 hg w26 hbox hb; have BK101 := Aside0.mk (hbox); have GW101 := zg HB hg; have GE101 := GW101; replace HB := zBb HB hb; clear hb hbox hg; have hcz27_0 := zc BK101 0; have hcz27_1 := zc BK101 1; have hfz27_0 := blk_frozen BK101.out 0; have hfz27_1 := blk_frozen BK101.out 1) | ((with_reducible refine gate_callee (f := 45) rfl ?_); refine zG (some 9) Try.func45 #[.int .i64 a0_0, .slice A0_1 l0_1.length c0_1] ?_; (with_reducible refine (polymod_Check.calls k a0_0 _ _ l0_1 t102 _ ?side1 ?side2 A2.out).mono ?_); (case side1 => exact zC (Kd.C_below HR0_1.out HB.out)); (case side2 => exact HC0_1.out); rintro e w28 ⟨rfl, hb⟩; refine ⟨_, rfl, ?_⟩; replace BK101 := zKb BK101 hb; replace HB := zBb HB hb; (try clear hb)))
  go_ret
  exact ⟨zQ, zT⟩
 rw [if_pos c3] at H
 obtain ⟨c3b0, c3b1⟩ := zE c3; clear c3
 by_cases c4 : (wrap64 ((l0_1.length : Int) - 1)) > 16
 ·rw [if_pos c4] at H
  have c4b0 := decide_eq_true c4; clear c4
  obtain rfl := Option.some.inj H
  go_enter Try.func23, Try.ntmps23
  go_wp2_with (first | ((with_reducible refine gate_dst (N := 1) rfl ?_); refine zb 1 #[.int .i64 a0_0, .slice A0_1 l0_1.length c0_1] 33 ?_; intro gb101 hg w5 hbox hb; have BK101 := Aside0.mk (hbox); have GW101 := zg HB hg; have GE101 := GW101; replace HB := zBb HB hb; clear hb hbox hg; have hcz6_0 := zc BK101 0; have hcz6_1 := zc BK101 1; have hfz6_0 := blk_frozen BK101.out 0; have hfz6_1 := blk_frozen BK101.out 1) | ((with_reducible refine gate_callee (f := 45) rfl ?_); refine zG (some 9) Try.func45 #[.int .i64 a0_0, .slice A0_1 l0_1.length c0_1] ?_; (with_reducible refine (polymod_Check.calls k a0_0 _ _ l0_1 t102 _ ?side1 ?side2 A2.out).mono ?_); (case side1 => exact zC (Kd.C_below HR0_1.out HB.out)); (case side2 => exact HC0_1.out); rintro e w7 ⟨rfl, hb⟩; refine ⟨_, rfl, ?_⟩; replace BK101 := zKb BK101 hb; replace HB := zBb HB hb; (try clear hb); have hcz8_0 := zc BK101 0; have hcz8_1 := zc BK101 1; have hfz8_0 := blk_frozen BK101.out 0; have hfz8_1 := blk_frozen BK101.out 1))
  go_ret
  exact ⟨zQ, zT⟩
 rw [if_neg c4] at H
 have c4b0 := decide_eq_false c4; clear c4
 have HC9 := Aside0.mk H
 clear H
 go_enter Try.func23, Try.ntmps23
 go_upto_region 7 with (first | ((with_reducible refine gate_dst (N := 1) rfl ?_); refine zb 1 #[.int .i64 a0_0, .slice A0_1 l0_1.length c0_1] 33 ?_; intro gb101 hg w10 hbox hb; have BK101 := Aside0.mk (hbox); have GW101 := zg HB hg; have GE101 := GW101; replace HB := zBb HB hb; clear hb hbox hg; have hcz11_0 := zc BK101 0; have hcz11_1 := zc BK101 1; have hfz11_0 := blk_frozen BK101.out 0; have hfz11_1 := blk_frozen BK101.out 1) | ((with_reducible refine gate_callee (f := 45) rfl ?_); refine zG (some 9) Try.func45 #[.int .i64 a0_0, .slice A0_1 l0_1.length c0_1] ?_; (with_reducible refine (polymod_Check.calls k a0_0 _ _ l0_1 t102 _ ?side1 ?side2 A2.out).mono ?_); (case side1 => exact zC (Kd.C_below HR0_1.out HB.out)); (case side2 => exact HC0_1.out); rintro e w12 ⟨rfl, hb⟩; refine ⟨_, rfl, ?_⟩; replace BK101 := zKb BK101 hb; replace HB := zBb HB hb; (try clear hb); have hcz13_0 := zc BK101 0; have hcz13_1 := zc BK101 1; have hfz13_0 := blk_frozen BK101.out 0; have hfz13_1 := blk_frozen BK101.out 1))
 (try simp only [Act.put, List.setIfInBounds_toArray, List.set_cons_zero, List.set_cons_succ])
 go_cut [20] (fun v20 wc => ∃ (kq : Nat) (x20_8 : Bool), v20 = .bool x20_8 ∧ Aside0 (finitefield_Check.j0 kq x20_8 a0_0 l0_1 = some r) ∧ Aside0 (kq ≤ k) ∧ Aside0 (wc.heap[gb101]? = some (.cells #[.int .i64 a0_0, (.slice A0_1 l0_1.length c0_1)] 33 (0, 0))) ∧ Aside0 (Below w.heap.size w wc))
 case first =>
  have H := HC9.out
  clear HC9
  by_cases c14 : (wrap64 ((l0_1.length : Int) - 1)) < 1
  ·rw [if_pos c14] at H
   have c14b0 := decide_eq_true c14; clear c14
   (first | rw [c14b0] | (simp only [i64_w, i32_w]; rw [c14b0]) | skip)
   have H' := Aside0.mk H
   clear H
   go_wp2
   go_meet
   case rel => exact ⟨_, (true), zX, H', ⟨by first | omega | exact Nat.le_refl _⟩, ⟨zK BK101.out⟩, ⟨zT⟩⟩
  rw [if_neg c14] at H
  have c14b0 := decide_eq_false c14; clear c14
  (first | rw [c14b0] | (simp only [i64_w, i32_w]; rw [c14b0]) | skip)
  obtain ⟨ji15, hji15⟩ : ∃ j_ : Int, (wrap64 ((l0_1.length : Int) - 1)) = j_ := ⟨_, rfl⟩
  first | rw [hji15] at H | simp only [hji15] at H
  (try rw [hji15] at c4b0)
  (try rw [hji15] at c14b0)
  have hji15w : (IntKind.i64.wrap ((l0_1.length : Int) - 1)) = ji15 := (i64_w _).trans hji15
  by_cases c16 : 0 ≤ (ji15)
  rotate_left
  ·rw [if_neg c16] at H
   exact absurd H (by simp)
  rw [if_pos c16] at H
  have c16b0 := decide_eq_true c16; clear c16
  by_cases c17 : (ji15) < (l0_1.length : Int)
  rotate_left
  ·rw [if_neg c17] at H
   exact absurd H (by simp)
  rw [if_pos c17] at H
  have c17b0 := decide_eq_true c17; clear c17
  have H' := Aside0.mk H
  clear H
  have hcz18_0 := zc BK101 0
  have hcz18_1 := zc BK101 1
  have hfz18_0 := blk_frozen BK101.out 0
  have hfz18_1 := blk_frozen BK101.out 1
  obtain ⟨p103, q103, ad103, e103, hx103_0⟩ := zI (HR0_1.out) ((ji15)) zD zD
  cases e103
  replace hx103_0 := (HB.out.cell (World.block_lt_of_cell? w _ hx103_0)).trans hx103_0
  go_wp2
  go_meet
  case rel => exact ⟨_, (((rd l0_1 (ji15)) != 1)), (by first | rfl | (simp; done) | (simp only [← hji15] <;> (first | rfl | simp)) | (simp [*]; done)), H', ⟨by first | omega | exact Nat.le_refl _⟩, ⟨zK BK101.out⟩, ⟨zT⟩⟩
 case rest =>
  clear HC9
  try clear c1; try clear p1; try clear q1; try clear hx1; try clear c2; try clear p2; try clear c3; try clear c3b0; try clear c3b1; try clear c4; try clear c4b0; try clear p6; try clear p10; try clear q10; try clear hx10; try clear c14; try clear c14b0; try clear c16; try clear c16b0; try clear c17; try clear c17b0; try clear hcz11_0; try clear hcz11_1; try clear hcz13_0; try clear hcz13_1; try clear hcz18_0; try clear hcz18_1; try clear hcz6_0; try clear hcz6_1; try clear hcz8_0; try clear hcz8_1; try clear hfz11_0; try clear hfz11_1; try clear hfz13_0; try clear hfz13_1; try clear hfz18_0; try clear hfz18_1; try clear hfz6_0; try clear hfz6_1; try clear hfz8_0; try clear hfz8_1; try clear hx103_0; try clear p103; try clear q103
  obtain ⟨kq, x20_8, rfl, HA, HJ8, BK101, HB⟩ := hcut
  cases kq with
  | zero => exact absurd HA.out (by simp [finitefield_Check.j0])
  | succ kj8 =>
   have H := HA.out
   clear HA
   simp only [finitefield_Check.j0] at H
   by_cases c19 : x20_8 = true
   ·subst c19
    rw [if_pos rfl] at H
    obtain rfl := Option.some.inj H
    go_wp2
    go_ret
    exact ⟨zQ, zT⟩
   replace c19 := Bool.eq_false_iff.mpr c19
   subst c19
   rw [if_neg Bool.false_ne_true] at H
   obtain ⟨t104, A20, H⟩ := zO H
   by_cases c21 : t104 = true
   ·subst c21
    rw [if_pos rfl] at H
    obtain rfl := Option.some.inj H
    have hcz22_0 := zc BK101 0
    have hcz22_1 := zc BK101 1
    have hfz22_0 := blk_frozen BK101.out 0
    have hfz22_1 := blk_frozen BK101.out 1
    go_wp2_with (first | ((with_reducible refine gate_callee (f := 46) rfl ?_); refine zG (some 36) Try.func46 #[.int .i64 a0_0, .slice A0_1 l0_1.length c0_1] ?_; (with_reducible refine (fp_Irreducible.calls kj8 a0_0 _ _ l0_1 true _ ?side1 ?side2 A20.out).mono ?_); (case side1 => exact zC (Kd.C_below HR0_1.out HB.out)); (case side2 => exact HC0_1.out); rintro e w23 ⟨rfl, hb⟩; refine ⟨_, rfl, ?_⟩; replace BK101 := zKb BK101 hb; replace HB := zBb HB hb; (try clear hb)))
    go_ret
    exact ⟨zQ, zT⟩
   replace c21 := Bool.eq_false_iff.mpr c21
   subst c21
   rw [if_neg Bool.false_ne_true] at H
   obtain rfl := Option.some.inj H
   have hcz24_0 := zc BK101 0
   have hcz24_1 := zc BK101 1
   have hfz24_0 := blk_frozen BK101.out 0
   have hfz24_1 := blk_frozen BK101.out 1
   go_wp2_with (first | ((with_reducible refine gate_callee (f := 46) rfl ?_); refine zG (some 36) Try.func46 #[.int .i64 a0_0, .slice A0_1 l0_1.length c0_1] ?_; (with_reducible refine (fp_Irreducible.calls kj8 a0_0 _ _ l0_1 false _ ?side1 ?side2 A20.out).mono ?_); (case side1 => exact zC (Kd.C_below HR0_1.out HB.out)); (case side2 => exact HC0_1.out); rintro e w25 ⟨rfl, hb⟩; refine ⟨_, rfl, ?_⟩; replace BK101 := zKb BK101 hb; replace HB := zBb HB hb; (try clear hb)))
   go_ret
   exact ⟨zQ, zT⟩
end Go.Proofs.Ytalnaafmonmlmaa.Q
end
section
namespace Go.Proofs.Ytalnaafmonmlmaa.Q
open Go.RowKit Go.Proofs.YtalnaafmonmlmaaW.PrintWords Go.Proofs.YtalnaafmonmlmaaW.PrintLast Go.Proofs.YtalnaafmonmlmaaW.PrintMore
attribute [local go_sem] max2_int min2_int max_two min_two max_three min_three max_four min_four
set_option linter.unusedVariables false
set_option linter.unusedSimpArgs false
set_option maxHeartbeats 8000000
set_option maxRecDepth 100000
def galoisref09_Check.l0 : Nat → Int → List Int → Int → Option (Int)
 | 0, _, _, _ => none
 | k + 1, x0, x1, x5 => if x5 < (x1.length : Int) then (if 0 ≤ x5 then (if (rd x1 x5) < 0 then (some 1) else (if (rd x1 x5) ≥ x0 then (some 1) else (galoisref09_Check.l0 k x0 x1 (wrap64 (x5 + 1))))) else (none)) else (if (x1.length : Int) > 0 then (if 0 ≤ (wrap64 ((x1.length : Int) - 1)) then (if (wrap64 ((x1.length : Int) - 1)) < (x1.length : Int) then (if (rd x1 (wrap64 ((x1.length : Int) - 1))) = 0 then (some 1) else (some 0)) else (none)) else (none)) else (some 0))
def galoisref09_Check.f (k : Nat) (a0 : Int) (l1 : List Int) : Option (Int) := (galoisref09_IsPrime.f k a0).bind fun t101 => (if t101 = true then (if (l1.length : Int) > 65 then (some 4) else (galoisref09_Check.l0 k a0 l1 0)) else (some 7))
theorem galoisref09_Check.mono_l : ∀ k, (∀ y0 y1 y2, LeO (galoisref09_Check.l0 k y0 y1 y2) (galoisref09_Check.l0 (k + 1) y0 y1 y2))
 | 0 => fun _ _ _ r h => by simp [galoisref09_Check.l0] at h
 | k + 1 => by
  have ih0 := galoisref09_Check.mono_l k
  intro y0 y1 y2
  unfold galoisref09_Check.l0
  with_reducible repeat' first | exact ih0 _ _ _ | exact galoisref09_IsPrime.mono _ _ | exact LeO.refl _ | exact LeO.none _ | refine LeO.ite ?_ ?_ | refine LeO.bind ?_ (fun _ => ?_)
theorem galoisref09_Check.mono : ∀ a0 a1 k, LeO (galoisref09_Check.f k a0 a1) (galoisref09_Check.f (k + 1) a0 a1) := by
 intro a0 a1 k
 have ih0 := galoisref09_Check.mono_l k
 unfold galoisref09_Check.f
 with_reducible repeat' first | exact ih0 _ _ _ | exact galoisref09_IsPrime.mono _ _ | exact LeO.refl _ | exact LeO.none _ | refine LeO.ite ?_ ?_ | refine LeO.bind ?_ (fun _ => ?_)
theorem galoisref09_Check.calls (k : Nat) (a0 : Int) (A1 : Option Addr) (c1 : Nat) (l1 : List Int) (r : Int) (w : World) (hr1 : Kd.C (Kd.int .i64) w A1 l1.length l1) (hc1 : l1.length ≤ c1) (h : galoisref09_Check.f k a0 l1 = some r) :
  Calls Try.prog 62 #[.int .i64 a0, .slice A1 l1.length c1] w fun e w' => e = .returned (.int .i64 r) ∧ Drawn0 w w' := by
 have HR1 := Aside0.mk hr1
 have HC1 := Aside0.mk hc1
 clear hr1 hc1
 have H := h; clear h; unfold galoisref09_Check.f at H
 obtain ⟨t101, A3, H⟩ := zO H
 by_cases c4 : t101 = true
 rotate_left
 ·replace c4 := Bool.eq_false_iff.mpr c4
  subst c4
  rw [if_neg Bool.false_ne_true] at H
  obtain rfl := Option.some.inj H
  go_enter Try.func62, Try.ntmps62
  go_wp2_with (first | ((with_reducible refine gate_callee (f := 10) rfl ?_); refine zG (some 7) Try.func10 #[.int .i64 a0] ?_; (with_reducible refine (galoisref09_IsPrime.calls k a0 false _ A3.out).mono ?_); rintro e w' ⟨rfl, ⟨nd, rfl⟩⟩; refine ⟨_, rfl, ?_⟩))
  go_ret
  exact ⟨by first | rfl | (simp; done) | (simp [*]; done), by repeat (first | exact Drawn0.refl _ | apply Drawn0.step)⟩
 subst c4
 rw [if_pos rfl] at H
 by_cases c5 : (l1.length : Int) > 65
 ·rw [if_pos c5] at H
  have c5b0 : decide (65 < (l1.length : Int)) = true := decide_eq_true c5
  have c5b1 : decide (65 < l1.length) = true := decide_eq_true (by omega)
  clear c5
  obtain rfl := Option.some.inj H
  go_enter Try.func62, Try.ntmps62
  go_wp2_with (first | ((with_reducible refine gate_callee (f := 10) rfl ?_); refine zG (some 7) Try.func10 #[.int .i64 a0] ?_; (with_reducible refine (galoisref09_IsPrime.calls k a0 true _ A3.out).mono ?_); rintro e w' ⟨rfl, ⟨nd, rfl⟩⟩; refine ⟨_, rfl, ?_⟩))
  go_ret
  exact ⟨by first | rfl | (simp; done) | (simp [*]; done), by repeat (first | exact Drawn0.refl _ | apply Drawn0.step)⟩
 rw [if_neg c5] at H
 have c5b0 : decide (65 < (l1.length : Int)) = false := decide_eq_false c5
 have c5b1 : decide (65 < l1.length) = false := decide_eq_false (by omega)
 clear c5
 have H' := Aside0.mk H
 clear H
 go_enter Try.func62, Try.ntmps62
 go_wp2_with (first | ((with_reducible refine gate_callee (f := 10) rfl ?_); refine zG (some 7) Try.func10 #[.int .i64 a0] ?_; (with_reducible refine (galoisref09_IsPrime.calls k a0 true _ A3.out).mono ?_); rintro e w' ⟨rfl, ⟨nd, rfl⟩⟩; refine ⟨_, rfl, ?_⟩))
 go_loopg [5] k (fun kq v5 w' => ∃ (x5_1 : Int), v5 = .int .i64 x5_1 ∧ Aside0 (galoisref09_Check.l0 kq a0 l1 x5_1 = some r) ∧ Aside0 (kq ≤ k) ∧ Drawn0 w w')
 case atStart => exact ⟨(0), zX, H', ⟨Nat.le_refl _⟩, by repeat (first | exact Drawn0.refl _ | apply Drawn0.step)⟩
 case round =>
  clear H'
  try clear c1; try clear p2; try clear c4; try clear c5; try clear c5b0; try clear c5b1
  obtain ⟨x5_1, rfl, HA, HK1, ⟨m1, rfl⟩⟩ := hrel
  cases gk with
  | zero => exact absurd HA.out (by simp [galoisref09_Check.l0])
  | succ k1 =>
   have H := HA.out
   clear HA
   simp only [galoisref09_Check.l0] at H
   by_cases c6 : x5_1 < (l1.length : Int)
   ·rw [if_pos c6] at H
    have c6b0 := decide_eq_true c6; clear c6
    by_cases c7 : 0 ≤ x5_1
    rotate_left
    ·rw [if_neg c7] at H
     exact absurd H (by simp)
    rw [if_pos c7] at H
    have c7b0 := decide_eq_true c7; clear c7
    by_cases c8 : (rd l1 x5_1) < 0
    ·rw [if_pos c8] at H
     have c8b0 := decide_eq_true c8; clear c8
     obtain rfl := Option.some.inj H
     obtain ⟨p102, q102, ad102, e102, hx102_0⟩ := zI (HR1.out) (x5_1) zD zD
     cases e102
     go_wp2
     go_ret
     exact ⟨by first | rfl | (simp; done) | (simp [*]; done), by repeat (first | exact Drawn0.refl _ | apply Drawn0.step)⟩
    rw [if_neg c8] at H
    have c8b0 := decide_eq_false c8; clear c8
    by_cases c9 : (rd l1 x5_1) ≥ a0
    ·rw [if_pos c9] at H
     have c9b0 := decide_eq_true c9; clear c9
     obtain rfl := Option.some.inj H
     obtain ⟨p102, q102, ad102, e102, hx102_0⟩ := zI (HR1.out) (x5_1) zD zD
     cases e102
     obtain ⟨p103, q103, ad103, e103, hx103_0⟩ := zI (HR1.out) (x5_1) zD zD
     obtain rfl : ad102 = ad103 := (by injection e103)
     go_wp2
     go_ret
     exact ⟨by first | rfl | (simp; done) | (simp [*]; done), by repeat (first | exact Drawn0.refl _ | apply Drawn0.step)⟩
    rw [if_neg c9] at H
    have c9b0 := decide_eq_false c9; clear c9
    have H' := Aside0.mk H
    clear H
    obtain ⟨p102, q102, ad102, e102, hx102_0⟩ := zI (HR1.out) (x5_1) zD zD
    cases e102
    obtain ⟨p103, q103, ad103, e103, hx103_0⟩ := zI (HR1.out) (x5_1) zD zD
    obtain rfl : ad102 = ad103 := (by injection e103)
    go_wp2
    go_roundg k1
    case measure => have := HK1.out; omega
    case rel => exact ⟨(wrap64 (x5_1 + 1)), zX, H', ⟨by have := HK1.out; omega⟩, by repeat (first | exact Drawn0.refl _ | apply Drawn0.step)⟩
   rw [if_neg c6] at H
   have c6b0 := decide_eq_false c6; clear c6
   by_cases c10 : (l1.length : Int) > 0
   rotate_left
   ·rw [if_neg c10] at H
    have c10b0 : decide (0 < (l1.length : Int)) = false := decide_eq_false c10
    have c10b1 : decide (0 < l1.length) = false := decide_eq_false (by omega)
    clear c10
    obtain rfl := Option.some.inj H
    go_wp2
    go_ret
    exact ⟨by first | rfl | (simp; done) | (simp [*]; done), by repeat (first | exact Drawn0.refl _ | apply Drawn0.step)⟩
   rw [if_pos c10] at H
   have c10b0 : decide (0 < (l1.length : Int)) = true := decide_eq_true c10
   have c10b1 : decide (0 < l1.length) = true := decide_eq_true (by omega)
   clear c10
   obtain ⟨ji11, hji11⟩ : ∃ j_ : Int, (wrap64 ((l1.length : Int) - 1)) = j_ := ⟨_, rfl⟩
   first | rw [hji11] at H | simp only [hji11] at H
   have hji11w : (IntKind.i64.wrap ((l1.length : Int) - 1)) = ji11 := (i64_w _).trans hji11
   by_cases c12 : 0 ≤ (ji11)
   rotate_left
   ·rw [if_neg c12] at H
    exact absurd H (by simp)
   rw [if_pos c12] at H
   have c12b0 := decide_eq_true c12; clear c12
   by_cases c13 : (ji11) < (l1.length : Int)
   rotate_left
   ·rw [if_neg c13] at H
    exact absurd H (by simp)
   rw [if_pos c13] at H
   have c13b0 := decide_eq_true c13; clear c13
   by_cases c14 : (rd l1 (ji11)) = 0
   rotate_left
   ·rw [if_neg c14] at H
    obtain ⟨c14b0, c14b1⟩ := zU c14
    obtain rfl := Option.some.inj H
    obtain ⟨p104, q104, ad104, e104, hx104_0⟩ := zI (HR1.out) ((ji11)) zD zD
    cases e104
    go_wp2
    go_ret
    exact ⟨by first | rfl | (simp; done) | (simp only [← hji11] <;> (first | rfl | simp)) | (simp [*]; done), by repeat (first | exact Drawn0.refl _ | apply Drawn0.step)⟩
   rw [if_pos c14] at H
   obtain ⟨c14b0, c14b1⟩ := zE c14; clear c14
   obtain rfl := Option.some.inj H
   obtain ⟨p104, q104, ad104, e104, hx104_0⟩ := zI (HR1.out) ((ji11)) zD zD
   cases e104
   go_wp2
   go_ret
   exact ⟨by first | rfl | (simp; done) | (simp only [← hji11] <;> (first | rfl | simp)) | (simp [*]; done), by repeat (first | exact Drawn0.refl _ | apply Drawn0.step)⟩
end Go.Proofs.Ytalnaafmonmlmaa.Q
end
section
namespace Go.Proofs.Ytalnaafmonmlmaa.Q
open Go.RowKit Go.Proofs.YtalnaafmonmlmaaW.PrintWords Go.Proofs.YtalnaafmonmlmaaW.PrintLast Go.Proofs.YtalnaafmonmlmaaW.PrintMore
attribute [local go_sem] max2_int min2_int max_two min_two max_three min_three max_four min_four
set_option linter.unusedVariables false
set_option linter.unusedSimpArgs false
set_option maxHeartbeats 8000000
set_option maxRecDepth 100000
def galoisref15_Check.j0 : Nat → Bool → Int → List Int → Option (Int)
 | 0, _, _, _ => none
 | k + 1, x18, x102000, x102001 => if x18 = true then (some 1) else ((galoisref09_IsIrreducible.f k x102000 x102001).bind fun t104 => (if t104 = true then (some 0) else (some 8)))
def galoisref15_Check.f (k : Nat) (a0_0 : Int) (l0_1 : List Int) : Option (Int) := (galoisref09_Check.f k a0_0 l0_1).bind fun t102 => (if t102 = 0 then (if (l0_1.length : Int) > 17 then (some 4) else (if (l0_1.length : Int) < 2 then (galoisref15_Check.j0 k true a0_0 l0_1) else ((galoisref09_Lead.f l0_1).bind fun t103 => (galoisref15_Check.j0 k (t103 != 1) a0_0 l0_1)))) else (some t102))
theorem galoisref15_Check.mono_l : ∀ k, (∀ y0 y1 y2, LeO (galoisref15_Check.j0 k y0 y1 y2) (galoisref15_Check.j0 (k + 1) y0 y1 y2))
 | 0 => fun _ _ _ r h => by simp [galoisref15_Check.j0] at h
 | k + 1 => by
  have ih0 := galoisref15_Check.mono_l k
  intro y0 y1 y2
  unfold galoisref15_Check.j0
  with_reducible repeat' first | exact ih0 _ _ _ | exact galoisref09_Check.mono _ _ _ | exact galoisref09_IsIrreducible.mono _ _ _ | exact LeO.refl _ | exact LeO.none _ | refine LeO.ite ?_ ?_ | refine LeO.bind ?_ (fun _ => ?_)
theorem galoisref15_Check.mono : ∀ a0 a1 k, LeO (galoisref15_Check.f k a0 a1) (galoisref15_Check.f (k + 1) a0 a1) := by
 intro a0 a1 k
 have ih0 := galoisref15_Check.mono_l k
 unfold galoisref15_Check.f
 with_reducible repeat' first | exact ih0 _ _ _ | exact galoisref09_Check.mono _ _ _ | exact galoisref09_IsIrreducible.mono _ _ _ | exact LeO.refl _ | exact LeO.none _ | refine LeO.ite ?_ ?_ | refine LeO.bind ?_ (fun _ => ?_)
theorem galoisref15_Check.calls (k : Nat) (a0_0 : Int) (A0_1 : Option Addr) (c0_1 : Nat) (l0_1 : List Int) (r : Int) (w : World) (hr0_1 : Kd.C (Kd.int .i64) w A0_1 l0_1.length l0_1) (hc0_1 : l0_1.length ≤ c0_1) (h : galoisref15_Check.f k a0_0 l0_1 = some r) :
  Calls Try.prog 24 #[.agg #[.int .i64 a0_0, .slice A0_1 l0_1.length c0_1]] w fun e w' => e = .returned (.int .i64 r) ∧ Below w.heap.size w w' := by
 have hu33 := Try.underlying33
 have HR0_1 := Aside0.mk hr0_1
 have HC0_1 := Aside0.mk hc0_1
 clear hr0_1 hc0_1
 have HB := Aside0.mk (Below.refl w.heap.size w)
 have H := h; clear h; unfold galoisref15_Check.f at H
 obtain ⟨t102, A2, H⟩ := zO H
 by_cases c3 : t102 = 0
 rotate_left
 ·rw [if_neg c3] at H
  obtain ⟨c3b0, c3b1⟩ := zU c3
  obtain rfl := Option.some.inj H
  go_enter Try.func24, Try.ntmps24
  go_wp2_with (first | ((with_reducible refine gate_dst (N := 1) rfl ?_); refine zb 1 #[.int .i64 a0_0, .slice A0_1 l0_1.length c0_1] 33 ?_; intro gb101 hg w21 hbox hb; have BK101 := Aside0.mk (hbox); have GW101 := zg HB hg; have GE101 := GW101; replace HB := zBb HB hb; clear hb hbox hg; have hcz22_0 := zc BK101 0; have hcz22_1 := zc BK101 1; have hfz22_0 := blk_frozen BK101.out 0; have hfz22_1 := blk_frozen BK101.out 1) | ((with_reducible refine gate_callee (f := 62) rfl ?_); refine zG (some 8) Try.func62 #[.int .i64 a0_0, .slice A0_1 l0_1.length c0_1] ?_; (with_reducible refine (galoisref09_Check.calls k a0_0 _ _ l0_1 t102 _ ?side1 ?side2 A2.out).mono ?_); (case side1 => exact zC (Kd.C_below HR0_1.out HB.out)); (case side2 => exact HC0_1.out); rintro e w' ⟨rfl, ⟨nd, rfl⟩⟩; refine ⟨_, rfl, ?_⟩))
  go_ret
  exact ⟨zQ, zT⟩
 rw [if_pos c3] at H
 obtain ⟨c3b0, c3b1⟩ := zE c3; clear c3
 by_cases c4 : (l0_1.length : Int) > 17
 ·rw [if_pos c4] at H
  have c4b0 : decide (17 < (l0_1.length : Int)) = true := decide_eq_true c4
  have c4b1 : decide (17 < l0_1.length) = true := decide_eq_true (by omega)
  clear c4
  obtain rfl := Option.some.inj H
  go_enter Try.func24, Try.ntmps24
  go_wp2_with (first | ((with_reducible refine gate_dst (N := 1) rfl ?_); refine zb 1 #[.int .i64 a0_0, .slice A0_1 l0_1.length c0_1] 33 ?_; intro gb101 hg w5 hbox hb; have BK101 := Aside0.mk (hbox); have GW101 := zg HB hg; have GE101 := GW101; replace HB := zBb HB hb; clear hb hbox hg; have hcz6_0 := zc BK101 0; have hcz6_1 := zc BK101 1; have hfz6_0 := blk_frozen BK101.out 0; have hfz6_1 := blk_frozen BK101.out 1) | ((with_reducible refine gate_callee (f := 62) rfl ?_); refine zG (some 8) Try.func62 #[.int .i64 a0_0, .slice A0_1 l0_1.length c0_1] ?_; (with_reducible refine (galoisref09_Check.calls k a0_0 _ _ l0_1 t102 _ ?side1 ?side2 A2.out).mono ?_); (case side1 => exact zC (Kd.C_below HR0_1.out HB.out)); (case side2 => exact HC0_1.out); rintro e w' ⟨rfl, ⟨nd, rfl⟩⟩; refine ⟨_, rfl, ?_⟩))
  go_ret
  exact ⟨zQ, zT⟩
 rw [if_neg c4] at H
 have c4b0 : decide (17 < (l0_1.length : Int)) = false := decide_eq_false c4
 have c4b1 : decide (17 < l0_1.length) = false := decide_eq_false (by omega)
 clear c4
 have HC7 := Aside0.mk H
 clear H
 go_enter Try.func24, Try.ntmps24
 go_upto_region 6 with (first | ((with_reducible refine gate_dst (N := 1) rfl ?_); refine zb 1 #[.int .i64 a0_0, .slice A0_1 l0_1.length c0_1] 33 ?_; intro gb101 hg w8 hbox hb; have BK101 := Aside0.mk (hbox); have GW101 := zg HB hg; have GE101 := GW101; replace HB := zBb HB hb; clear hb hbox hg; have hcz9_0 := zc BK101 0; have hcz9_1 := zc BK101 1; have hfz9_0 := blk_frozen BK101.out 0; have hfz9_1 := blk_frozen BK101.out 1) | ((with_reducible refine gate_callee (f := 62) rfl ?_); refine zG (some 8) Try.func62 #[.int .i64 a0_0, .slice A0_1 l0_1.length c0_1] ?_; (with_reducible refine (galoisref09_Check.calls k a0_0 _ _ l0_1 t102 _ ?side1 ?side2 A2.out).mono ?_); (case side1 => exact zC (Kd.C_below HR0_1.out HB.out)); (case side2 => exact HC0_1.out); rintro e w' ⟨rfl, ⟨nd, rfl⟩⟩; refine ⟨_, rfl, ?_⟩))
 (try simp only [Act.put, List.setIfInBounds_toArray, List.set_cons_zero, List.set_cons_succ])
 go_cut [18] (fun v18 wc => ∃ (kq : Nat) (x18_6 : Bool), v18 = .bool x18_6 ∧ Aside0 (galoisref15_Check.j0 kq x18_6 a0_0 l0_1 = some r) ∧ Aside0 (kq ≤ k) ∧ Aside0 (wc.heap[gb101]? = some (.cells #[.int .i64 a0_0, (.slice A0_1 l0_1.length c0_1)] 33 (0, 0))) ∧ Aside0 (Below w.heap.size w wc))
 case first =>
  have H := HC7.out
  clear HC7
  by_cases c10 : (l0_1.length : Int) < 2
  ·rw [if_pos c10] at H
   have c10b0 : decide ((l0_1.length : Int) < 2) = true := decide_eq_true c10
   have c10b1 : decide (l0_1.length < 2) = true := decide_eq_true (by omega)
   clear c10
   (first | rw [c10b0] | (simp only [i64_w, i32_w]; rw [c10b0]) | skip)
   have H' := Aside0.mk H
   clear H
   have hcz11_0 := zc BK101 0
   have hcz11_1 := zc BK101 1
   have hfz11_0 := blk_frozen BK101.out 0
   have hfz11_1 := blk_frozen BK101.out 1
   go_wp2
   go_meet
   case rel => exact ⟨_, (true), zX, H', ⟨by first | omega | exact Nat.le_refl _⟩, ⟨zK BK101.out⟩, ⟨zT⟩⟩
  rw [if_neg c10] at H
  have c10b0 : decide ((l0_1.length : Int) < 2) = false := decide_eq_false c10
  have c10b1 : decide (l0_1.length < 2) = false := decide_eq_false (by omega)
  clear c10
  (first | rw [c10b0] | (simp only [i64_w, i32_w]; rw [c10b0]) | skip)
  obtain ⟨t103, A12, H⟩ := zO H
  have H' := Aside0.mk H
  clear H
  have hcz13_0 := zc BK101 0
  have hcz13_1 := zc BK101 1
  have hfz13_0 := blk_frozen BK101.out 0
  have hfz13_1 := blk_frozen BK101.out 1
  go_wp2_with (first | (go_at_call 63; (with_reducible refine (galoisref09_Lead.calls _ _ l0_1 t103 _ ?side1 ?side2 A12.out).mono ?_); (case side1 => exact zC (Kd.C_below HR0_1.out HB.out)); (case side2 => exact HC0_1.out); rintro e w' ⟨rfl, ⟨nd, rfl⟩⟩))
  go_meet
  case rel => exact ⟨_, ((t103 != 1)), zX, H', ⟨by first | omega | exact Nat.le_refl _⟩, ⟨zK BK101.out⟩, ⟨zT⟩⟩
 case rest =>
  clear HC7
  try clear c1; try clear c2; try clear p2; try clear c3; try clear c3b0; try clear c3b1; try clear c4; try clear c4b0; try clear c4b1; try clear c6; try clear c10; try clear c10b0; try clear c10b1; try clear hcz11_0; try clear hcz11_1; try clear hcz13_0; try clear hcz13_1; try clear hcz6_0; try clear hcz6_1; try clear hcz9_0; try clear hcz9_1; try clear hfz11_0; try clear hfz11_1; try clear hfz13_0; try clear hfz13_1; try clear hfz6_0; try clear hfz6_1; try clear hfz9_0; try clear hfz9_1
  obtain ⟨kq, x18_6, rfl, HA, HJ6, BK101, HB⟩ := hcut
  cases kq with
  | zero => exact absurd HA.out (by simp [galoisref15_Check.j0])
  | succ kj6 =>
   have H := HA.out
   clear HA
   simp only [galoisref15_Check.j0] at H
   by_cases c14 : x18_6 = true
   ·subst c14
    rw [if_pos rfl] at H
    obtain rfl := Option.some.inj H
    go_wp2
    go_ret
    exact ⟨zQ, zT⟩
   replace c14 := Bool.eq_false_iff.mpr c14
   subst c14
   rw [if_neg Bool.false_ne_true] at H
   obtain ⟨t104, A15, H⟩ := zO H
   by_cases c16 : t104 = true
   ·subst c16
    rw [if_pos rfl] at H
    obtain rfl := Option.some.inj H
    have hcz17_0 := zc BK101 0
    have hcz17_1 := zc BK101 1
    have hfz17_0 := blk_frozen BK101.out 0
    have hfz17_1 := blk_frozen BK101.out 1
    go_wp2_with (first | ((with_reducible refine gate_callee (f := 48) rfl ?_); refine zG (some 34) Try.func48 #[.int .i64 a0_0, .slice A0_1 l0_1.length c0_1] ?_; (with_reducible refine (galoisref09_IsIrreducible.calls kj6 a0_0 _ _ l0_1 true _ ?side1 ?side2 A15.out).mono ?_); (case side1 => exact zC (Kd.C_below HR0_1.out HB.out)); (case side2 => exact HC0_1.out); rintro e w18 ⟨rfl, hb⟩; refine ⟨_, rfl, ?_⟩; replace BK101 := zKb BK101 hb; replace HB := zBb HB hb; (try clear hb)))
    go_ret
    exact ⟨zQ, zT⟩
   replace c16 := Bool.eq_false_iff.mpr c16
   subst c16
   rw [if_neg Bool.false_ne_true] at H
   obtain rfl := Option.some.inj H
   have hcz19_0 := zc BK101 0
   have hcz19_1 := zc BK101 1
   have hfz19_0 := blk_frozen BK101.out 0
   have hfz19_1 := blk_frozen BK101.out 1
   go_wp2_with (first | ((with_reducible refine gate_callee (f := 48) rfl ?_); refine zG (some 34) Try.func48 #[.int .i64 a0_0, .slice A0_1 l0_1.length c0_1] ?_; (with_reducible refine (galoisref09_IsIrreducible.calls kj6 a0_0 _ _ l0_1 false _ ?side1 ?side2 A15.out).mono ?_); (case side1 => exact zC (Kd.C_below HR0_1.out HB.out)); (case side2 => exact HC0_1.out); rintro e w20 ⟨rfl, hb⟩; refine ⟨_, rfl, ?_⟩; replace BK101 := zKb BK101 hb; replace HB := zBb HB hb; (try clear hb)))
   go_ret
   exact ⟨zQ, zT⟩
end Go.Proofs.Ytalnaafmonmlmaa.Q
end
section
namespace Go.Proofs.Ytalnaafmonmlmaa.Q
open Go.RowKit Go.Proofs.YtalnaafmonmlmaaW.PrintWords Go.Proofs.YtalnaafmonmlmaaW.PrintLast Go.Proofs.YtalnaafmonmlmaaW.PrintMore
attribute [local go_sem] max2_int min2_int max_two min_two max_three min_three max_four min_four
set_option linter.unusedVariables false
set_option linter.unusedSimpArgs false
set_option maxHeartbeats 8000000
set_option maxRecDepth 100000
def finitefield_element.f (k : Nat) (a0_0 : Int) (l0_1 : List Int) (l1 : List Int) : Option (Int) := (polymod_Check.f k a0_0 l1).bind fun t102 => (if t102 = 0 then (if (l1.length : Int) ≥ (l0_1.length : Int) then (some 3) else (some 0)) else (some t102))
theorem finitefield_element.mono : ∀ a0 a1 a2 k, LeO (finitefield_element.f k a0 a1 a2) (finitefield_element.f (k + 1) a0 a1 a2) := by
 intro a0 a1 a2 k
 unfold finitefield_element.f
 with_reducible repeat' first | exact polymod_Check.mono _ _ _ | exact LeO.refl _ | exact LeO.none _ | refine LeO.ite ?_ ?_ | refine LeO.bind ?_ (fun _ => ?_)
theorem finitefield_element.calls (k : Nat) (a0_0 : Int) (A0_1 : Option Addr) (c0_1 : Nat) (l0_1 : List Int) (A1 : Option Addr) (c1 : Nat) (l1 : List Int) (r : Int) (w : World) (hr0_1 : Kd.C (Kd.int .i64) w A0_1 l0_1.length l0_1) (hc0_1 : l0_1.length ≤ c0_1) (hr1 : Kd.C (Kd.int .i64) w A1 l1.length l1) (hc1 : l1.length ≤ c1) (h : finitefield_element.f k a0_0 l0_1 l1 = some r) :
  Calls Try.prog 91 #[.agg #[.int .i64 a0_0, .slice A0_1 l0_1.length c0_1], .slice A1 l1.length c1] w fun e w' => e = .returned (.int .i64 r) ∧ Below w.heap.size w w' := by
 have hu33 := Try.underlying33
 have HR0_1 := Aside0.mk hr0_1
 have HC0_1 := Aside0.mk hc0_1
 clear hr0_1 hc0_1
 have HR1 := Aside0.mk hr1
 have HC1 := Aside0.mk hc1
 clear hr1 hc1
 have HB := Aside0.mk (Below.refl w.heap.size w)
 have H := h; clear h; unfold finitefield_element.f at H
 obtain ⟨t102, A3, H⟩ := zO H
 by_cases c4 : t102 = 0
 rotate_left
 ·rw [if_neg c4] at H
  obtain ⟨c4b0, c4b1⟩ := zU c4
  obtain rfl := Option.some.inj H
  go_enter Try.func91, Try.ntmps91
  go_wp2_with (first | ((with_reducible refine gate_dst (N := 2) rfl ?_); refine zb 2 #[.int .i64 a0_0, .slice A0_1 l0_1.length c0_1] 33 ?_; intro gb101 hg w14 hbox hb; have BK101 := Aside0.mk (hbox); have GW101 := zg HB hg; have GE101 := GW101; replace HB := zBb HB hb; clear hb hbox hg; have hcz15_0 := zc BK101 0; have hcz15_1 := zc BK101 1; have hfz15_0 := blk_frozen BK101.out 0; have hfz15_1 := blk_frozen BK101.out 1) | ((with_reducible refine gate_callee (f := 45) rfl ?_); refine zG (some 9) Try.func45 #[.int .i64 a0_0, .slice A1 l1.length c1] ?_; (with_reducible refine (polymod_Check.calls k a0_0 _ _ l1 t102 _ ?side1 ?side2 A3.out).mono ?_); (case side1 => exact zC (Kd.C_below HR1.out HB.out)); (case side2 => exact HC1.out); rintro e w16 ⟨rfl, hb⟩; refine ⟨_, rfl, ?_⟩; replace BK101 := zKb BK101 hb; replace HB := zBb HB hb; (try clear hb)))
  go_ret
  exact ⟨zQ, zT⟩
 rw [if_pos c4] at H
 obtain ⟨c4b0, c4b1⟩ := zE c4; clear c4
 by_cases c5 : (l1.length : Int) ≥ (l0_1.length : Int)
 ·rw [if_pos c5] at H
  have c5b0 : decide ((l0_1.length : Int) ≤ (l1.length : Int)) = true := decide_eq_true c5
  have c5b1 : decide (l0_1.length ≤ l1.length) = true := decide_eq_true (Int.ofNat_le.mp c5)
  clear c5
  obtain rfl := Option.some.inj H
  go_enter Try.func91, Try.ntmps91
  go_wp2_with (first | ((with_reducible refine gate_dst (N := 2) rfl ?_); refine zb 2 #[.int .i64 a0_0, .slice A0_1 l0_1.length c0_1] 33 ?_; intro gb101 hg w6 hbox hb; have BK101 := Aside0.mk (hbox); have GW101 := zg HB hg; have GE101 := GW101; replace HB := zBb HB hb; clear hb hbox hg; have hcz7_0 := zc BK101 0; have hcz7_1 := zc BK101 1; have hfz7_0 := blk_frozen BK101.out 0; have hfz7_1 := blk_frozen BK101.out 1) | ((with_reducible refine gate_callee (f := 45) rfl ?_); refine zG (some 9) Try.func45 #[.int .i64 a0_0, .slice A1 l1.length c1] ?_; (with_reducible refine (polymod_Check.calls k a0_0 _ _ l1 t102 _ ?side1 ?side2 A3.out).mono ?_); (case side1 => exact zC (Kd.C_below HR1.out HB.out)); (case side2 => exact HC1.out); rintro e w8 ⟨rfl, hb⟩; refine ⟨_, rfl, ?_⟩; replace BK101 := zKb BK101 hb; replace HB := zBb HB hb; (try clear hb); have hcz9_0 := zc BK101 0; have hcz9_1 := zc BK101 1; have hfz9_0 := blk_frozen BK101.out 0; have hfz9_1 := blk_frozen BK101.out 1))
  go_ret
  exact ⟨zQ, zT⟩
 rw [if_neg c5] at H
 have c5b0 : decide ((l0_1.length : Int) ≤ (l1.length : Int)) = false := decide_eq_false c5
 have c5b1 : decide (l0_1.length ≤ l1.length) = false := decide_eq_false (fun h => c5 (Int.ofNat_le.mpr h))
 clear c5
 obtain rfl := Option.some.inj H
 go_enter Try.func91, Try.ntmps91
 go_wp2_with (first | ((with_reducible refine gate_dst (N := 2) rfl ?_); refine zb 2 #[.int .i64 a0_0, .slice A0_1 l0_1.length c0_1] 33 ?_; intro gb101 hg w10 hbox hb; have BK101 := Aside0.mk (hbox); have GW101 := zg HB hg; have GE101 := GW101; replace HB := zBb HB hb; clear hb hbox hg; have hcz11_0 := zc BK101 0; have hcz11_1 := zc BK101 1; have hfz11_0 := blk_frozen BK101.out 0; have hfz11_1 := blk_frozen BK101.out 1) | ((with_reducible refine gate_callee (f := 45) rfl ?_); refine zG (some 9) Try.func45 #[.int .i64 a0_0, .slice A1 l1.length c1] ?_; (with_reducible refine (polymod_Check.calls k a0_0 _ _ l1 t102 _ ?side1 ?side2 A3.out).mono ?_); (case side1 => exact zC (Kd.C_below HR1.out HB.out)); (case side2 => exact HC1.out); rintro e w12 ⟨rfl, hb⟩; refine ⟨_, rfl, ?_⟩; replace BK101 := zKb BK101 hb; replace HB := zBb HB hb; (try clear hb); have hcz13_0 := zc BK101 0; have hcz13_1 := zc BK101 1; have hfz13_0 := blk_frozen BK101.out 0; have hfz13_1 := blk_frozen BK101.out 1))
 go_ret
 exact ⟨zQ, zT⟩
end Go.Proofs.Ytalnaafmonmlmaa.Q
end

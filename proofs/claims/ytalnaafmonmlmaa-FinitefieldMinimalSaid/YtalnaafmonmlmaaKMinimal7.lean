/- Machine side and arithmetic of the law, put together by a program of the session. No conditions. -/
import Derived.Test.YtalnaafmonmlmaaKMinimal5
import Derived.Test.YtalnaafmonmlmaaKMinimal6
section
namespace Go.Proofs.Ytalnaafmonmlmaa.Q
open Go.RowKit Go.Proofs.YtalnaafmonmlmaaW.PrintWords Go.Proofs.YtalnaafmonmlmaaW.PrintLast Go.Proofs.YtalnaafmonmlmaaW.PrintMore
attribute [local go_sem] max2_int min2_int max_two min_two max_three min_three max_four min_four
set_option linter.unusedVariables false
set_option linter.unusedSimpArgs false
set_option maxHeartbeats 8000000
set_option maxRecDepth 100000
def r9Add.l0 : Nat → Int → List Int → List Int → List Int → Int → Option (List Int)
 | 0, _, _, _, _, _ => none
 | k + 1, x0, x1, x2, x7, x8 => if x8 < (x7.length : Int) then (if x8 < (x1.length : Int) then (if 0 ≤ x8 then ((some (x7.set (x8 : Int).toNat (wrap64 ((rd x7 x8) + (rd x1 x8))) : List Int)).bind fun y109 => (if x8 < (x2.length : Int) then ((some (y109.set (x8 : Int).toNat (wrap64 ((rd y109 x8) + (rd x2 x8))) : List Int)).bind fun y112 => (if x0 = 0 then (none) else (r9Add.l0 k x0 x1 x2 (y112.set (x8 : Int).toNat (Int.tmod (rd y112 x8) x0)) (wrap64 (x8 + 1))))) else (if x0 = 0 then (none) else (r9Add.l0 k x0 x1 x2 (y109.set (x8 : Int).toNat (Int.tmod (rd y109 x8) x0)) (wrap64 (x8 + 1)))))) else (none)) else (if x8 < (x2.length : Int) then (if 0 ≤ x8 then ((some (x7.set (x8 : Int).toNat (wrap64 ((rd x7 x8) + (rd x2 x8))) : List Int)).bind fun y119 => (if x0 = 0 then (none) else (r9Add.l0 k x0 x1 x2 (y119.set (x8 : Int).toNat (Int.tmod (rd y119 x8) x0)) (wrap64 (x8 + 1))))) else (none)) else (if 0 ≤ x8 then (if x0 = 0 then (none) else (r9Add.l0 k x0 x1 x2 (x7.set (x8 : Int).toNat (Int.tmod (rd x7 x8) x0)) (wrap64 (x8 + 1)))) else (none)))) else ((r9Trim.f k x7).bind fun t104 => (some t104))
def r9Add.f (k : Nat) (a0 : Int) (l1 : List Int) (l2 : List Int) : Option (List Int) := if 0 ≤ (mx (l1.length : Int) (l2.length : Int)) then (if (mx (l1.length : Int) (l2.length : Int) : Int).toNat ≤ 35184372088832 then (r9Add.l0 k a0 l1 l2 (List.replicate (mx (l1.length : Int) (l2.length : Int) : Int).toNat 0) 0) else (none)) else (none)
theorem r9Add.mono_l : ∀ k, (∀ y0 y1 y2 y3 y4, LeO (r9Add.l0 k y0 y1 y2 y3 y4) (r9Add.l0 (k + 1) y0 y1 y2 y3 y4))
 | 0 => fun _ _ _ _ _ r h => by simp [r9Add.l0] at h
 | k + 1 => by
  have ih0 := r9Add.mono_l k
  intro y0 y1 y2 y3 y4
  unfold r9Add.l0
  with_reducible repeat' first | exact ih0 _ _ _ _ _ | exact r9Trim.mono _ _ | exact LeO.refl _ | exact LeO.none _ | refine LeO.ite ?_ ?_ | refine LeO.bind ?_ (fun _ => ?_)
theorem r9Add.mono : ∀ a0 a1 a2 k, LeO (r9Add.f k a0 a1 a2) (r9Add.f (k + 1) a0 a1 a2) := by
 intro a0 a1 a2 k
 have ih0 := r9Add.mono_l k
 unfold r9Add.f
 with_reducible repeat' first | exact ih0 _ _ _ _ _ | exact r9Trim.mono _ _ | exact LeO.refl _ | exact LeO.none _ | refine LeO.ite ?_ ?_ | refine LeO.bind ?_ (fun _ => ?_)
def r9Add.T6 : Bool × List (List Nat × List Nat) := (true, [([], []), ([], []), ([], []), ([], []), ([2, 3], [2, 3]), ([4], [4]), ([], []), ([], []), ([6, 7], [6, 7]), ([8], [8]), ([5, 9], [5, 9]), ([0, 1, 0, 1, 2, 3, 4, 5, 6, 7, 8, 9, 10], [0, 1]), ([11, 10, 0, 1, 2, 3, 4, 5, 6, 7, 8, 9, 10], [10, 11])])
def r9Add.B6 : List Nat := [0, 0, 0, 0, 12, 28, 0, 0, 192, 448, 1020, 2047, 4095]
theorem r9Add.tab6 : rtab .any (opsOf Try.f64 6) = r9Add.T6 := by kernel_rfl
theorem r9Add.bits6 : waitsOk r9Add.T6.2 r9Add.B6 = true := by kernel_rfl
def r9Add.T8 : Bool × List (List Nat × List Nat) := (true, [([], []), ([], []), ([], []), ([], []), ([2, 3], [2, 3]), ([4], [4]), ([], []), ([], []), ([6, 7], [6, 7]), ([8], [8]), ([5, 9], [5, 9]), ([0, 1, 0, 1, 2, 3, 4, 5, 6, 7, 8, 9, 10], [0, 1]), ([11, 10, 0, 1, 2, 3, 4, 5, 6, 7, 8, 9, 10], [10, 11])])
def r9Add.B8 : List Nat := [0, 0, 0, 0, 12, 28, 0, 0, 192, 448, 1020, 2047, 4095]
theorem r9Add.tab8 : rtab .any (opsOf Try.f64 8) = r9Add.T8 := by kernel_rfl
theorem r9Add.bits8 : waitsOk r9Add.T8.2 r9Add.B8 = true := by kernel_rfl
theorem r9Add.calls (k : Nat) (a0 : Int) (A1 : Option Addr) (c1 : Nat) (l1 : List Int) (A2 : Option Addr) (c2 : Nat) (l2 : List Int) (r : List Int) (w : World) (hr1 : Kd.C (Kd.int .i64) w A1 l1.length l1) (hc1 : l1.length ≤ c1) (hr2 : Kd.C (Kd.int .i64) w A2 l2.length l2) (hc2 : l2.length ≤ c2) (h : r9Add.f k a0 l1 l2 = some r) :
  Calls Try.prog 64 #[.int .i64 a0, .slice A1 l1.length c1, .slice A2 l2.length c2] w fun e w' => ∃ v0_ : Value, e = .returned (v0_) ∧ Kd.V (Kd.int .i64) 3 w' w.heap.size (fun k_ => (w.heap.size ≤ k_)) v0_ r ∧ Below w.heap.size w w' := by
 have HR1 := zm hr1
 have HC1 := zm hc1
 clear hr1 hc1
 have HR2 := zm hr2
 have HC2 := zm hc2
 clear hr2 hc2
 have HB := zm (Below.refl w.heap.size w)
 have H := h; clear h; unfold r9Add.f at H
 obtain ⟨ji4, hji4⟩ : ∃ j_ : Int, (mx (l1.length : Int) (l2.length : Int)) = j_ := ⟨_, rfl⟩
 first | rw [hji4] at H | simp only [hji4] at H
 (try (have hji4l : 0 ≤ ji4 := by (rw [← hji4]; unfold mx; (repeat' split) <;> omega)))
 (try (have hji4m : 0 ≤ ji4 := by omega))
 have hji4_ : (if (l1.length : Int) < (l2.length : Int) then (l2.length : Int) else (l1.length : Int)) = ji4 := hji4
 (try (have hji4_n := hji4_; simp only [Int.ofNat_lt] at hji4_n))
 by_cases c5 : 0 ≤ (ji4)
 rotate_left
 ·rw [if_neg c5] at H
  exact absurd H (by simp)
 rw [if_pos c5] at H
 have c5b0 := eq_true c5; have c5b1 := decide_eq_true c5; clear c5
 by_cases c6 : (ji4 : Int).toNat ≤ 35184372088832
 rotate_left
 ·rw [if_neg c6] at H
  exact absurd H (by simp)
 rw [if_pos c6] at H
 have c6b0 := eq_true c6; have c6b1 := decide_eq_true c6; clear c6
 obtain ⟨y101, Ny101⟩ := zA ((List.replicate (ji4 : Int).toNat 0) : List Int); rw [← Ny101.out] at H
 have H' := zm H
 clear H
 go_enter Try.func64, Try.ntmps64
 go_wp2_with (first | ((with_reducible refine gate_dst (N := 14) rfl ?_); refine Kd.R_make (Kd.int .i64) _ 3 rfl (N := 14) rfl 25 _ _ rfl ji4 rfl rfl Try.underlying25 (.int .i64 0) 8 info3 rfl (by decide) (by omega) 0 (ok := fun _ => True) (okp := fun _ => True) rfl (fun _ hk => hk) trivial zD (Nat.le_trans (Nat.mul_le_mul_right _ (zD : ji4.toNat ≤ 35184372088832)) (by omega)) (Below.refl _ _) (Nat.le_refl _) ?_; intro v102 w7 ho8 hb hg_ hnew_; clear hg_ hnew_; (first | rw [← Ny101.out] at ho8 | (simp only [Int.reduceToNat] at ho8; rw [← Ny101.out] at ho8)); have HO103 := zm (Kd.R_lower (Kd.R_newM (M := fun k_ => (w.heap.size ≤ k_)) ho8 (zS HB) (fun k_ h_ => h_)) (zS HB)); replace HB := zBb HB hb; clear hb ho8))
 go_loopg [8] k (fun kq v8 w' => ∃ (x7_1 : List Int) (x8_1 : Int), v8 = .int .i64 x8_1 ∧ Aside0 (r9Add.l0 kq a0 l1 l2 x7_1 x8_1 = some r) ∧ Aside0 (kq ≤ k) ∧ Aside0 (Kd.R (Kd.int .i64) 3 w' w.heap.size (fun k_ => (w.heap.size ≤ k_)) v102 x7_1) ∧ Aside0 (Below w.heap.size w w'))
 case atStart => exact ⟨(y101), (0), zX, H', ⟨Nat.le_refl _⟩, ⟨zR (Kd.R_mono HO103.out (fun _ hk => hk.1))⟩, ⟨zT⟩⟩
 case round =>
  clear H'
  obtain ⟨x7_1, x8_1, rfl, HA, HK1, HO_7, HB⟩ := hrel
  cases gk with
  | zero => exact absurd HA.out (by simp [r9Add.l0])
  | succ k1 =>
   have H := HA.out
   clear HA
   simp only [r9Add.l0] at H
   by_cases c9 : x8_1 < (x7_1.length : Int)
   rotate_left
   ·rw [if_neg c9] at H
    have c9b0 := decide_eq_false c9; clear c9
    obtain ⟨t104, A51, H⟩ := zO H
    obtain rfl := Option.some.inj H
    obtain ⟨Ao52, co52, eo52⟩ := Kd.R_slice HO_7.out
    subst eo52
    go_wp2_with (first | ((with_reducible refine gate_callee (f := 41) rfl ?_); refine zG (some 63) Try.func41 #[.slice Ao52 x7_1.length co52] ?_; (with_reducible refine (r9Trim.calls k1 (fun k_ => some k_ = (.slice Ao52 x7_1.length co52 : Value).ownBlock) _ _ x7_1 t104 _ (Kd.R_V (Kd.R_tight rfl (HO_7.out))) A51.out).mono ?_); rintro e w53 ⟨v105, rfl, ho0, hb⟩; refine ⟨_, rfl, ?_⟩; have HO106 := zWV (fun k_ => (w.heap.size ≤ k_)) ho0 HB (fun k_ hk_ => Or.elim hk_ (fun hs_ => ((HO_7.out).1 k_ hs_.symm)) (fun hn_ => (Nat.le_trans (zS HB) hn_))); replace HO_7 := zRb HO_7 hb; replace HB := zBb HB hb))
    go_ret
    exact ⟨_, by first | rfl | (simp [errW_none, errW_some] <;> rfl) | (simp only [← hji4]; first | rfl | (simp [errW_none, errW_some] <;> rfl)) | (simp [*, errW_none, errW_some] <;> rfl), zV HO106.out, zT⟩
   rw [if_pos c9] at H
   have c9b0 := decide_eq_true c9; clear c9
   by_cases c10 : x8_1 < (l1.length : Int)
   rotate_left
   ·rw [if_neg c10] at H
    have c10b0 := decide_eq_false c10; clear c10
    by_cases c34 : x8_1 < (l2.length : Int)
    rotate_left
    ·rw [if_neg c34] at H
     have c34b0 := decide_eq_false c34; clear c34
     by_cases c45 : 0 ≤ x8_1
     rotate_left
     ·rw [if_neg c45] at H
      exact absurd H (by simp)
     rw [if_pos c45] at H
     have c45b0 := decide_eq_true c45; clear c45
     by_cases c46 : a0 = 0
     ·rw [if_pos c46] at H
      exact absurd H (by simp)
     rw [if_neg c46] at H
     obtain ⟨c46b0, c46b1⟩ := zU c46
     obtain ⟨y123, Ny123⟩ := zA ((x7_1.set (x8_1 : Int).toNat (Int.tmod (rd x7_1 x8_1) a0)) : List Int); rw [← Ny123.out] at H
     have H' := zm H
     clear H
     obtain ⟨Ao48, co48, eo48⟩ := Kd.R_slice HO_7.out
     subst eo48
     obtain ⟨p122, q122, ad122, e122, hx122_0⟩ := zI ((Kd.R_reads' HO_7.out).2.2) (x8_1) zD zD
     cases e122
     have p47 : 0 ≤ (x8_1 : Int) := zD
     have q47 : (x8_1 : Int) < ((x7_1.length : Int) : Int) := zD
     obtain ⟨go47, co47, eo47, gb47, gl47, cl47, HG47⟩ := Kd.R_form HO_7.out (by omega)
     (first | cases eo47 | (injection eo47 with ea_ en_ ec_; (first | subst ea_ | (injection ea_ with ea_; subst ea_)); subst ec_; clear en_))
     have GB47 := zm gb47
     have GG47 := zm HG47
     clear gb47 gl47 HG47
     (first | simp only [add_plain] at hx122_0 | skip)
     obtain ⟨hx47_0, hf47_0⟩ := Kd.R_celln 0 HO_7.out (x8_1 : Int) p47 q47
     replace p47 := eq_true p47
     replace q47 := eq_true q47
     have HP49 := Kd.R_putg HO_7.out (x8_1 : Int) (Int.tmod (rd x7_1 x8_1) a0)
     go_wp2_with (first | ((with_reducible refine gate_store (t := 3) (p := 61) rfl ?_); refine store_event (t := 3) (p := 61) (v := ?vo_w50) (w1 := (wr.setCell ⟨go47, (x8_1 : Int).toNat, none⟩ (.int .i64 (Int.tmod (rd x7_1 x8_1) a0)))) ?hg ?ho ?hn ?hr ?_; (case ho => rfl); (case hg => rfl); (case hn => rfl); (case hr => go_simp <;> rfl); intro w50 hw; have hg : wr.grownBy w50 (some go47) := (by rw [hw]; exact HP49.2); have hp_ : Kd.R (Kd.int .i64) 3 w50 w.heap.size (fun k_ => (w.heap.size ≤ k_)) (.slice (some ⟨go47, 0, none⟩) x7_1.length co48) y123 := (by rw [hw, Ny123.out]; exact HP49.1); clear HP49; replace HO_7 := zm (hp_); replace HB := zm ((by rw [hw]; exact below_set (HB.out) GB47.out : Below w.heap.size w w50)); clear hg hw hp_))
     (first | go_roundg k1 | (simp only [show ∀ g_ : Nat, ({ block := g_, off := (ji4).toNat } : Addr) = ({ block := g_, off := 0 } : Addr).add (ji4).toNat from fun g_ => by simp [Addr.add]]; go_roundg k1))
     case measure => have := HK1.out; omega
     case rel => exact ⟨(y123), (wrap64 (x8_1 + 1)), zX, H', ⟨by have := HK1.out; omega⟩, ⟨zR HO_7.out⟩, ⟨zT⟩⟩
    rw [if_pos c34] at H
    have c34b0 := decide_eq_true c34; clear c34
    by_cases c35 : 0 ≤ x8_1
    rotate_left
    ·rw [if_neg c35] at H
     exact absurd H (by simp)
    rw [if_pos c35] at H
    have c35b0 := decide_eq_true c35; clear c35
    obtain ⟨y119, Ny119, H⟩ := zY H
    by_cases c37 : a0 = 0
    ·rw [if_pos c37] at H
     exact absurd H (by simp)
    rw [if_neg c37] at H
    obtain ⟨c37b0, c37b1⟩ := zU c37
    obtain ⟨y121, Ny121⟩ := zA ((y119.set (x8_1 : Int).toNat (Int.tmod (rd y119 x8_1) a0)) : List Int); rw [← Ny121.out] at H
    have H' := zm H
    clear H
    obtain ⟨Ao39, co39, eo39⟩ := Kd.R_slice HO_7.out
    subst eo39
    try go_wp2
    replace HO_7 := zm (Kd.R_drew HO_7.out)
    replace HB := zm (below_drew1 HB.out)
    obtain ⟨p117, q117, ad117, e117, hx117_0⟩ := zI ((Kd.R_reads' HO_7.out).2.2) (x8_1) zD zD
    cases e117
    obtain ⟨p118, q118, ad118, e118, hx118_0⟩ := zI (HR2.out) (x8_1) zD zD
    have hw118_0 := hx118_0
    cases e118
    replace hx118_0 := (HB.out.cell (World.block_lt_of_cell? w _ hx118_0)).trans hx118_0
    have p36 : 0 ≤ (x8_1 : Int) := zD
    have q36 : (x8_1 : Int) < ((x7_1.length : Int) : Int) := zD
    obtain ⟨go36, co36, eo36, gb36, gl36, cl36, HG36⟩ := Kd.R_form HO_7.out (by omega)
    (first | cases eo36 | (injection eo36 with ea_ en_ ec_; (first | subst ea_ | (injection ea_ with ea_; subst ea_)); subst ec_; clear en_))
    have GB36 := zm gb36
    have GG36 := zm HG36
    clear gb36 gl36 HG36
    (first | simp only [add_plain] at hx117_0 | skip)
    obtain ⟨hx36_0, hf36_0⟩ := Kd.R_celln 0 HO_7.out (x8_1 : Int) p36 q36
    replace p36 := eq_true p36
    replace q36 := eq_true q36
    have HP41 := Kd.R_putn HO_7.out (x8_1 : Int) (wrap64 ((rd x7_1 x8_1) + (rd l2 x8_1)))
    rw [← Ny119.out] at HP41
    have HQ41 := zm HP41
    clear HP41
    refine start_ (n := 13) (S := fun w' => w'.cell? ⟨go36, (x8_1).toNat, none⟩ = some (.int .i64 (rd x7_1 x8_1)) ∧ w'.cell? (ad118.add (x8_1).toNat) = some (.int .i64 (rd l2 x8_1))) (ds := [12]) #[false, false, false, false, false, false, false, false, false, false, false, false, false] (by kernel_rfl) rfl rfl ⟨hx117_0, ((HB.out.cell (World.block_lt_of_cell? w _ hw118_0)).trans hw118_0)⟩ (fun hHeld => ?_); refine with_tabW r9Add.tab8 r9Add.bits8 (fun HT_ HW_ => ?_)
    generalize wr.drew = w40 at HO_7 HB GG36 HQ41 hf36_0 hx117_0 hx118_0 hx36_0 hHeld ⊢
    refine zP 0 41 ?_; refine zP 1 42 ?_; refine zP 2 43 ?_; refine zP 3 44 ?_; refine zP 4 45 ?_; refine zP 6 47 ?_; refine zP 7 48 ?_; refine zP 8 49 ?_
    refine take_ (i := 5) (N := some 46) (v := ?_) (a' := ?_) #[true, true, true, true, true, true, true, true, true, false, false, false, false] rfl rfl (take_ofW HT_.out HW_.out (by kernel_rfl)) (fun _ _ _ h => h) (Or.inl ⟨by rfl, ?_⟩) hHeld ?_ ?_
    rotate_left
    ·rintro w' ⟨s0, s1⟩
     go_simp
     with_reducible rfl
    rotate_left
    ·simp only [Act.put, List.setIfInBounds_toArray, List.set_cons_zero, List.set_cons_succ, i64_w, i32_w]
     rfl
    refine take_ (i := 9) (N := some 50) (v := ?_) (a' := ?_) #[true, true, true, true, true, true, true, true, true, true, false, false, false] rfl rfl (take_ofW HT_.out HW_.out (by kernel_rfl)) (fun _ _ _ h => h) (Or.inl ⟨by rfl, ?_⟩) hHeld ?_ ?_
    rotate_left
    ·rintro w' ⟨s0, s1⟩
     go_simp
     with_reducible rfl
    rotate_left
    ·simp only [Act.put, List.setIfInBounds_toArray, List.set_cons_zero, List.set_cons_succ, i64_w, i32_w]
     rfl
    refine zP 10 51 ?_; refine zP 11 52 ?_
    refine last_ (i := 12) (N := none) #[true, true, true, true, true, true, true, true, true, true, true, true, true] rfl rfl (one_of HT_.out (by kernel_rfl)) (by decide) (fun K hK => ?_)
    refine skip_ (w1 := ?_) (by rfl) rfl ?_ ?_
    rotate_left
    ·go_simp
     rfl
    refine hK.out _ _ ?_
    clear hK K
    refine done_ (done_of HT_.out (by kernel_rfl)) ?_
    have n0_ : Aside0 (Kd.R (Kd.int .i64) 3 (w40.setCell ⟨go36, (x8_1 : Int).toNat, none⟩ (.int .i64 (wrap64 ((rd x7_1 x8_1) + (rd l2 x8_1))))) w.heap.size (fun k_ => (w.heap.size ≤ k_)) (.slice (some ⟨go36, 0, none⟩) x7_1.length co39) y119) := ⟨zR HQ41.out⟩
    have n1_ : Aside0 (Below w.heap.size w (w40.setCell ⟨go36, (x8_1 : Int).toNat, none⟩ (.int .i64 (wrap64 ((rd x7_1 x8_1) + (rd l2 x8_1)))))) := ⟨zT⟩
    (try clear HO_7)
    (try clear HB)
    generalize (w40.setCell ⟨go36, (x8_1 : Int).toNat, none⟩ (.int .i64 (wrap64 ((rd x7_1 x8_1) + (rd l2 x8_1))))) = w42 at n0_ n1_ ⊢
    have HO_7 := n0_
    have HB := n1_
    clear n0_ n1_
    have p120 : 0 ≤ (x8_1 : Int) := zD
    have q120 : x8_1 < (y119.length : Int) := (by have h_ : (x8_1 : Int) < ((x7_1.length : Int) : Int) := zD; first | (have e_ := (Kd.R_reads' HO_7.out).1; omega) | simpa only [Ny119.out, List.length_set] using h_)
    have ql120 : ((x8_1 : Int) < ((x7_1.length : Int) : Int)) = True := eq_true zD
    obtain ⟨ad120, e120, hx120_0⟩ := Kd.at_int (Kd.R_reads' HO_7.out).2.2 x8_1 p120 q120
    obtain rfl : (⟨go36, 0, none⟩ : Addr) = ad120 := (by injection e120)
    (first | simp only [add_plain] at hx120_0 | simp only [add_at] at hx120_0 | simp only [Addr.add, Nat.zero_add] at hx120_0 | skip)
    replace p120 := eq_true p120
    replace q120 := eq_true q120
    have p38 : 0 ≤ (x8_1 : Int) := zD
    have q38 : (x8_1 : Int) < ((x7_1.length : Int) : Int) := zD
    obtain ⟨hx38_0, hf38_0⟩ := Kd.R_celln 0 HO_7.out (x8_1 : Int) p38 q38
    replace p38 := eq_true p38
    replace q38 := eq_true q38
    obtain ⟨hy43_, hz43_⟩ := Kd.R_celln 0 HO_7.out (x8_1 : Int) zD zD
    have HP43 := Kd.R_putg HO_7.out (x8_1 : Int) (Int.tmod (rd y119 x8_1) a0)
    try go_wp2_with (first | ((with_reducible refine gate_store (t := 3) (p := 61) rfl ?_); refine store_event (t := 3) (p := 61) (v := ?vo_w44) (w1 := (w42.setCell ⟨go36, (x8_1 : Int).toNat, none⟩ (.int .i64 (Int.tmod (rd y119 x8_1) a0)))) ?hg ?ho ?hn ?hr ?_; (case ho => rfl); (case hg => rfl); (case hn => rfl); (case hr => go_simp <;> rfl); intro w44 hw; have hg : w42.grownBy w44 (some go36) := (by rw [hw]; exact HP43.2); have hp_ : Kd.R (Kd.int .i64) 3 w44 w.heap.size (fun k_ => (w.heap.size ≤ k_)) (.slice (some ⟨go36, 0, none⟩) x7_1.length co39) y121 := (by rw [hw, Ny121.out]; exact HP43.1); clear HP43; replace HO_7 := zm (hp_); replace HB := zm ((by rw [hw]; exact below_set (HB.out) GB36.out : Below w.heap.size w w44)); clear hg hw hp_))
    (first | go_roundg k1 | (simp only [show ∀ g_ : Nat, ({ block := g_, off := (ji4).toNat } : Addr) = ({ block := g_, off := 0 } : Addr).add (ji4).toNat from fun g_ => by simp [Addr.add]]; go_roundg k1))
    case measure => have := HK1.out; omega
    case rel => exact ⟨(y121), (wrap64 (x8_1 + 1)), zX, H', ⟨by have := HK1.out; omega⟩, ⟨zR HO_7.out⟩, ⟨zT⟩⟩
   rw [if_pos c10] at H
   have c10b0 := decide_eq_true c10; clear c10
   by_cases c11 : 0 ≤ x8_1
   rotate_left
   ·rw [if_neg c11] at H
    exact absurd H (by simp)
   rw [if_pos c11] at H
   have c11b0 := decide_eq_true c11; clear c11
   obtain ⟨y109, Ny109, H⟩ := zY H
   by_cases c13 : x8_1 < (l2.length : Int)
   rotate_left
   ·rw [if_neg c13] at H
    have c13b0 := decide_eq_false c13; clear c13
    by_cases c26 : a0 = 0
    ·rw [if_pos c26] at H
     exact absurd H (by simp)
    rw [if_neg c26] at H
    obtain ⟨c26b0, c26b1⟩ := zU c26
    obtain ⟨y116, Ny116⟩ := zA ((y109.set (x8_1 : Int).toNat (Int.tmod (rd y109 x8_1) a0)) : List Int); rw [← Ny116.out] at H
    have H' := zm H
    clear H
    obtain ⟨Ao28, co28, eo28⟩ := Kd.R_slice HO_7.out
    subst eo28
    try go_wp2
    replace HO_7 := zm (Kd.R_drew HO_7.out)
    replace HB := zm (below_drew1 HB.out)
    obtain ⟨p107, q107, ad107, e107, hx107_0⟩ := zI ((Kd.R_reads' HO_7.out).2.2) (x8_1) zD zD
    cases e107
    obtain ⟨p108, q108, ad108, e108, hx108_0⟩ := zI (HR1.out) (x8_1) zD zD
    have hw108_0 := hx108_0
    cases e108
    replace hx108_0 := (HB.out.cell (World.block_lt_of_cell? w _ hx108_0)).trans hx108_0
    have p12 : 0 ≤ (x8_1 : Int) := zD
    have q12 : (x8_1 : Int) < ((x7_1.length : Int) : Int) := zD
    obtain ⟨go12, co12, eo12, gb12, gl12, cl12, HG12⟩ := Kd.R_form HO_7.out (by omega)
    (first | cases eo12 | (injection eo12 with ea_ en_ ec_; (first | subst ea_ | (injection ea_ with ea_; subst ea_)); subst ec_; clear en_))
    have GB12 := zm gb12
    have GG12 := zm HG12
    clear gb12 gl12 HG12
    (first | simp only [add_plain] at hx107_0 | skip)
    obtain ⟨hx12_0, hf12_0⟩ := Kd.R_celln 0 HO_7.out (x8_1 : Int) p12 q12
    replace p12 := eq_true p12
    replace q12 := eq_true q12
    have HP30 := Kd.R_putn HO_7.out (x8_1 : Int) (wrap64 ((rd x7_1 x8_1) + (rd l1 x8_1)))
    rw [← Ny109.out] at HP30
    have HQ30 := zm HP30
    clear HP30
    refine start_ (n := 13) (S := fun w' => w'.cell? ⟨go12, (x8_1).toNat, none⟩ = some (.int .i64 (rd x7_1 x8_1)) ∧ w'.cell? (ad108.add (x8_1).toNat) = some (.int .i64 (rd l1 x8_1))) (ds := [12]) #[false, false, false, false, false, false, false, false, false, false, false, false, false] (by kernel_rfl) rfl rfl ⟨hx107_0, ((HB.out.cell (World.block_lt_of_cell? w _ hw108_0)).trans hw108_0)⟩ (fun hHeld => ?_); refine with_tabW r9Add.tab6 r9Add.bits6 (fun HT_ HW_ => ?_)
    generalize wr.drew = w29 at HO_7 HB GG12 HQ30 hf12_0 hx107_0 hx108_0 hx12_0 hHeld ⊢
    refine zP 0 25 ?_; refine zP 1 26 ?_; refine zP 2 27 ?_; refine zP 3 28 ?_; refine zP 4 29 ?_; refine zP 6 31 ?_; refine zP 7 32 ?_; refine zP 8 33 ?_
    refine take_ (i := 5) (N := some 30) (v := ?_) (a' := ?_) #[true, true, true, true, true, true, true, true, true, false, false, false, false] rfl rfl (take_ofW HT_.out HW_.out (by kernel_rfl)) (fun _ _ _ h => h) (Or.inl ⟨by rfl, ?_⟩) hHeld ?_ ?_
    rotate_left
    ·rintro w' ⟨s0, s1⟩
     go_simp
     with_reducible rfl
    rotate_left
    ·simp only [Act.put, List.setIfInBounds_toArray, List.set_cons_zero, List.set_cons_succ, i64_w, i32_w]
     rfl
    refine take_ (i := 9) (N := some 34) (v := ?_) (a' := ?_) #[true, true, true, true, true, true, true, true, true, true, false, false, false] rfl rfl (take_ofW HT_.out HW_.out (by kernel_rfl)) (fun _ _ _ h => h) (Or.inl ⟨by rfl, ?_⟩) hHeld ?_ ?_
    rotate_left
    ·rintro w' ⟨s0, s1⟩
     go_simp
     with_reducible rfl
    rotate_left
    ·simp only [Act.put, List.setIfInBounds_toArray, List.set_cons_zero, List.set_cons_succ, i64_w, i32_w]
     rfl
    refine zP 10 35 ?_; refine zP 11 36 ?_
    refine last_ (i := 12) (N := none) #[true, true, true, true, true, true, true, true, true, true, true, true, true] rfl rfl (one_of HT_.out (by kernel_rfl)) (by decide) (fun K hK => ?_)
    refine skip_ (w1 := ?_) (by rfl) rfl ?_ ?_
    rotate_left
    ·go_simp
     rfl
    refine hK.out _ _ ?_
    clear hK K
    refine done_ (done_of HT_.out (by kernel_rfl)) ?_
    have n0_ : Aside0 (Kd.R (Kd.int .i64) 3 (w29.setCell ⟨go12, (x8_1 : Int).toNat, none⟩ (.int .i64 (wrap64 ((rd x7_1 x8_1) + (rd l1 x8_1))))) w.heap.size (fun k_ => (w.heap.size ≤ k_)) (.slice (some ⟨go12, 0, none⟩) x7_1.length co28) y109) := ⟨zR HQ30.out⟩
    have n1_ : Aside0 (Below w.heap.size w (w29.setCell ⟨go12, (x8_1 : Int).toNat, none⟩ (.int .i64 (wrap64 ((rd x7_1 x8_1) + (rd l1 x8_1)))))) := ⟨zT⟩
    (try clear HO_7)
    (try clear HB)
    generalize (w29.setCell ⟨go12, (x8_1 : Int).toNat, none⟩ (.int .i64 (wrap64 ((rd x7_1 x8_1) + (rd l1 x8_1))))) = w31 at n0_ n1_ ⊢
    have HO_7 := n0_
    have HB := n1_
    clear n0_ n1_
    have p115 : 0 ≤ (x8_1 : Int) := zD
    have q115 : x8_1 < (y109.length : Int) := (by have h_ : (x8_1 : Int) < ((x7_1.length : Int) : Int) := zD; first | (have e_ := (Kd.R_reads' HO_7.out).1; omega) | simpa only [Ny109.out, List.length_set] using h_)
    have ql115 : ((x8_1 : Int) < ((x7_1.length : Int) : Int)) = True := eq_true zD
    obtain ⟨ad115, e115, hx115_0⟩ := Kd.at_int (Kd.R_reads' HO_7.out).2.2 x8_1 p115 q115
    obtain rfl : (⟨go12, 0, none⟩ : Addr) = ad115 := (by injection e115)
    (first | simp only [add_plain] at hx115_0 | simp only [add_at] at hx115_0 | simp only [Addr.add, Nat.zero_add] at hx115_0 | skip)
    replace p115 := eq_true p115
    replace q115 := eq_true q115
    have p27 : 0 ≤ (x8_1 : Int) := zD
    have q27 : (x8_1 : Int) < ((x7_1.length : Int) : Int) := zD
    obtain ⟨hx27_0, hf27_0⟩ := Kd.R_celln 0 HO_7.out (x8_1 : Int) p27 q27
    replace p27 := eq_true p27
    replace q27 := eq_true q27
    obtain ⟨hy32_, hz32_⟩ := Kd.R_celln 0 HO_7.out (x8_1 : Int) zD zD
    have HP32 := Kd.R_putg HO_7.out (x8_1 : Int) (Int.tmod (rd y109 x8_1) a0)
    try go_wp2_with (first | ((with_reducible refine gate_store (t := 3) (p := 61) rfl ?_); refine store_event (t := 3) (p := 61) (v := ?vo_w33) (w1 := (w31.setCell ⟨go12, (x8_1 : Int).toNat, none⟩ (.int .i64 (Int.tmod (rd y109 x8_1) a0)))) ?hg ?ho ?hn ?hr ?_; (case ho => rfl); (case hg => rfl); (case hn => rfl); (case hr => go_simp <;> rfl); intro w33 hw; have hg : w31.grownBy w33 (some go12) := (by rw [hw]; exact HP32.2); have hp_ : Kd.R (Kd.int .i64) 3 w33 w.heap.size (fun k_ => (w.heap.size ≤ k_)) (.slice (some ⟨go12, 0, none⟩) x7_1.length co28) y116 := (by rw [hw, Ny116.out]; exact HP32.1); clear HP32; replace HO_7 := zm (hp_); replace HB := zm ((by rw [hw]; exact below_set (HB.out) GB12.out : Below w.heap.size w w33)); clear hg hw hp_))
    (first | go_roundg k1 | (simp only [show ∀ g_ : Nat, ({ block := g_, off := (ji4).toNat } : Addr) = ({ block := g_, off := 0 } : Addr).add (ji4).toNat from fun g_ => by simp [Addr.add]]; go_roundg k1))
    case measure => have := HK1.out; omega
    case rel => exact ⟨(y116), (wrap64 (x8_1 + 1)), zX, H', ⟨by have := HK1.out; omega⟩, ⟨zR HO_7.out⟩, ⟨zT⟩⟩
   rw [if_pos c13] at H
   have c13b0 := decide_eq_true c13; clear c13
   obtain ⟨y112, Ny112, H⟩ := zY H
   by_cases c15 : a0 = 0
   ·rw [if_pos c15] at H
    exact absurd H (by simp)
   rw [if_neg c15] at H
   obtain ⟨c15b0, c15b1⟩ := zU c15
   obtain ⟨y114, Ny114⟩ := zA ((y112.set (x8_1 : Int).toNat (Int.tmod (rd y112 x8_1) a0)) : List Int); rw [← Ny114.out] at H
   have H' := zm H
   clear H
   obtain ⟨Ao17, co17, eo17⟩ := Kd.R_slice HO_7.out
   subst eo17
   try go_wp2
   replace HO_7 := zm (Kd.R_drew HO_7.out)
   replace HB := zm (below_drew1 HB.out)
   obtain ⟨p107, q107, ad107, e107, hx107_0⟩ := zI ((Kd.R_reads' HO_7.out).2.2) (x8_1) zD zD
   cases e107
   obtain ⟨p108, q108, ad108, e108, hx108_0⟩ := zI (HR1.out) (x8_1) zD zD
   have hw108_0 := hx108_0
   cases e108
   replace hx108_0 := (HB.out.cell (World.block_lt_of_cell? w _ hx108_0)).trans hx108_0
   have p12 : 0 ≤ (x8_1 : Int) := zD
   have q12 : (x8_1 : Int) < ((x7_1.length : Int) : Int) := zD
   obtain ⟨go12, co12, eo12, gb12, gl12, cl12, HG12⟩ := Kd.R_form HO_7.out (by omega)
   (first | cases eo12 | (injection eo12 with ea_ en_ ec_; (first | subst ea_ | (injection ea_ with ea_; subst ea_)); subst ec_; clear en_))
   have GB12 := zm gb12
   have GG12 := zm HG12
   clear gb12 gl12 HG12
   (first | simp only [add_plain] at hx107_0 | skip)
   obtain ⟨hx12_0, hf12_0⟩ := Kd.R_celln 0 HO_7.out (x8_1 : Int) p12 q12
   replace p12 := eq_true p12
   replace q12 := eq_true q12
   have HP19 := Kd.R_putn HO_7.out (x8_1 : Int) (wrap64 ((rd x7_1 x8_1) + (rd l1 x8_1)))
   rw [← Ny109.out] at HP19
   have HQ19 := zm HP19
   clear HP19
   refine start_ (n := 13) (S := fun w' => w'.cell? ⟨go12, (x8_1).toNat, none⟩ = some (.int .i64 (rd x7_1 x8_1)) ∧ w'.cell? (ad108.add (x8_1).toNat) = some (.int .i64 (rd l1 x8_1))) (ds := [12]) #[false, false, false, false, false, false, false, false, false, false, false, false, false] (by kernel_rfl) rfl rfl ⟨hx107_0, ((HB.out.cell (World.block_lt_of_cell? w _ hw108_0)).trans hw108_0)⟩ (fun hHeld => ?_); refine with_tabW r9Add.tab6 r9Add.bits6 (fun HT_ HW_ => ?_)
   generalize wr.drew = w18 at HO_7 HB GG12 HQ19 hf12_0 hx107_0 hx108_0 hx12_0 hHeld ⊢
   refine zP 0 25 ?_; refine zP 1 26 ?_; refine zP 2 27 ?_; refine zP 3 28 ?_; refine zP 4 29 ?_; refine zP 6 31 ?_; refine zP 7 32 ?_; refine zP 8 33 ?_
   refine take_ (i := 5) (N := some 30) (v := ?_) (a' := ?_) #[true, true, true, true, true, true, true, true, true, false, false, false, false] rfl rfl (take_ofW HT_.out HW_.out (by kernel_rfl)) (fun _ _ _ h => h) (Or.inl ⟨by rfl, ?_⟩) hHeld ?_ ?_
   rotate_left
   ·rintro w' ⟨s0, s1⟩
    go_simp
    with_reducible rfl
   rotate_left
   ·simp only [Act.put, List.setIfInBounds_toArray, List.set_cons_zero, List.set_cons_succ, i64_w, i32_w]
    rfl
   refine take_ (i := 9) (N := some 34) (v := ?_) (a' := ?_) #[true, true, true, true, true, true, true, true, true, true, false, false, false] rfl rfl (take_ofW HT_.out HW_.out (by kernel_rfl)) (fun _ _ _ h => h) (Or.inl ⟨by rfl, ?_⟩) hHeld ?_ ?_
   rotate_left
   ·rintro w' ⟨s0, s1⟩
    go_simp
    with_reducible rfl
   rotate_left
   ·simp only [Act.put, List.setIfInBounds_toArray, List.set_cons_zero, List.set_cons_succ, i64_w, i32_w]
    rfl
   refine zP 10 35 ?_; refine zP 11 36 ?_
   refine last_ (i := 12) (N := none) #[true, true, true, true, true, true, true, true, true, true, true, true, true] rfl rfl (one_of HT_.out (by kernel_rfl)) (by decide) (fun K hK => ?_)
   refine skip_ (w1 := ?_) (by rfl) rfl ?_ ?_
   rotate_left
   ·go_simp
    rfl
   refine hK.out _ _ ?_
   clear hK K
   refine done_ (done_of HT_.out (by kernel_rfl)) ?_
   try go_wp2
   have n0_ : Aside0 (Kd.R (Kd.int .i64) 3 (w18.setCell ⟨go12, (x8_1 : Int).toNat, none⟩ (.int .i64 (wrap64 ((rd x7_1 x8_1) + (rd l1 x8_1))))) w.heap.size (fun k_ => (w.heap.size ≤ k_)) (.slice (some ⟨go12, 0, none⟩) x7_1.length co17) y109) := ⟨zR HQ19.out⟩
   have n1_ : Aside0 (Below w.heap.size w (w18.setCell ⟨go12, (x8_1 : Int).toNat, none⟩ (.int .i64 (wrap64 ((rd x7_1 x8_1) + (rd l1 x8_1)))))) := ⟨zT⟩
   (try clear HO_7)
   (try clear HB)
   generalize (w18.setCell ⟨go12, (x8_1 : Int).toNat, none⟩ (.int .i64 (wrap64 ((rd x7_1 x8_1) + (rd l1 x8_1))))) = w20 at n0_ n1_ ⊢
   have HO_7 := n0_
   have HB := n1_
   clear n0_ n1_
   replace HO_7 := zm (Kd.R_drew HO_7.out)
   replace HB := zm (below_drew1 HB.out)
   have p110 : 0 ≤ (x8_1 : Int) := zD
   have q110 : x8_1 < (y109.length : Int) := (by have h_ : (x8_1 : Int) < ((x7_1.length : Int) : Int) := zD; first | (have e_ := (Kd.R_reads' HO_7.out).1; omega) | simpa only [Ny109.out, List.length_set] using h_)
   have ql110 : ((x8_1 : Int) < ((x7_1.length : Int) : Int)) = True := eq_true zD
   obtain ⟨ad110, e110, hx110_0⟩ := Kd.at_int (Kd.R_reads' HO_7.out).2.2 x8_1 p110 q110
   obtain rfl : (⟨go12, 0, none⟩ : Addr) = ad110 := (by injection e110)
   (first | simp only [add_plain] at hx110_0 | simp only [add_at] at hx110_0 | simp only [Addr.add, Nat.zero_add] at hx110_0 | skip)
   replace p110 := eq_true p110
   replace q110 := eq_true q110
   obtain ⟨p111, q111, ad111, e111, hx111_0⟩ := zI (HR2.out) (x8_1) zD zD
   have hw111_0 := hx111_0
   cases e111
   replace hx111_0 := (HB.out.cell (World.block_lt_of_cell? w _ hx111_0)).trans hx111_0
   have p14 : 0 ≤ (x8_1 : Int) := zD
   have q14 : (x8_1 : Int) < ((x7_1.length : Int) : Int) := zD
   obtain ⟨hx14_0, hf14_0⟩ := Kd.R_celln 0 HO_7.out (x8_1 : Int) p14 q14
   replace p14 := eq_true p14
   replace q14 := eq_true q14
   have HP22 := Kd.R_putn HO_7.out (x8_1 : Int) (wrap64 ((rd y109 x8_1) + (rd l2 x8_1)))
   rw [← Ny112.out] at HP22
   have HQ22 := zm HP22
   clear HP22
   refine start_ (n := 13) (S := fun w' => w'.cell? ⟨go12, (x8_1).toNat, none⟩ = some (.int .i64 (rd y109 x8_1)) ∧ w'.cell? (ad111.add (x8_1).toNat) = some (.int .i64 (rd l2 x8_1))) (ds := [12]) #[false, false, false, false, false, false, false, false, false, false, false, false, false] (by kernel_rfl) rfl rfl ⟨hx110_0, ((HB.out.cell (World.block_lt_of_cell? w _ hw111_0)).trans hw111_0)⟩ (fun hHeld => ?_); refine with_tabW r9Add.tab8 r9Add.bits8 (fun HT_ HW_ => ?_)
   generalize w20.drew = w21 at HO_7 HB HQ19 HQ22 hf14_0 hx110_0 hx111_0 hx14_0 hHeld ⊢
   refine zP 0 41 ?_; refine zP 1 42 ?_; refine zP 2 43 ?_; refine zP 3 44 ?_; refine zP 4 45 ?_; refine zP 6 47 ?_; refine zP 7 48 ?_; refine zP 8 49 ?_
   refine take_ (i := 5) (N := some 46) (v := ?_) (a' := ?_) #[true, true, true, true, true, true, true, true, true, false, false, false, false] rfl rfl (take_ofW HT_.out HW_.out (by kernel_rfl)) (fun _ _ _ h => h) (Or.inl ⟨by rfl, ?_⟩) hHeld ?_ ?_
   rotate_left
   ·rintro w' ⟨s0, s1⟩
    go_simp
    with_reducible rfl
   rotate_left
   ·simp only [Act.put, List.setIfInBounds_toArray, List.set_cons_zero, List.set_cons_succ, i64_w, i32_w]
    rfl
   refine take_ (i := 9) (N := some 50) (v := ?_) (a' := ?_) #[true, true, true, true, true, true, true, true, true, true, false, false, false] rfl rfl (take_ofW HT_.out HW_.out (by kernel_rfl)) (fun _ _ _ h => h) (Or.inl ⟨by rfl, ?_⟩) hHeld ?_ ?_
   rotate_left
   ·rintro w' ⟨s0, s1⟩
    go_simp
    with_reducible rfl
   rotate_left
   ·simp only [Act.put, List.setIfInBounds_toArray, List.set_cons_zero, List.set_cons_succ, i64_w, i32_w]
    rfl
   refine zP 10 51 ?_; refine zP 11 52 ?_
   refine last_ (i := 12) (N := none) #[true, true, true, true, true, true, true, true, true, true, true, true, true] rfl rfl (one_of HT_.out (by kernel_rfl)) (by decide) (fun K hK => ?_)
   refine skip_ (w1 := ?_) (by rfl) rfl ?_ ?_
   rotate_left
   ·go_simp
    rfl
   refine hK.out _ _ ?_
   clear hK K
   refine done_ (done_of HT_.out (by kernel_rfl)) ?_
   have n0_ : Aside0 (Kd.R (Kd.int .i64) 3 (w21.setCell ⟨go12, (x8_1 : Int).toNat, none⟩ (.int .i64 (wrap64 ((rd y109 x8_1) + (rd l2 x8_1))))) w.heap.size (fun k_ => (w.heap.size ≤ k_)) (.slice (some ⟨go12, 0, none⟩) x7_1.length co17) y112) := ⟨zR HQ22.out⟩
   have n1_ : Aside0 (Below w.heap.size w (w21.setCell ⟨go12, (x8_1 : Int).toNat, none⟩ (.int .i64 (wrap64 ((rd y109 x8_1) + (rd l2 x8_1)))))) := ⟨zT⟩
   (try clear HO_7)
   (try clear HB)
   generalize (w21.setCell ⟨go12, (x8_1 : Int).toNat, none⟩ (.int .i64 (wrap64 ((rd y109 x8_1) + (rd l2 x8_1))))) = w23 at n0_ n1_ ⊢
   have HO_7 := n0_
   have HB := n1_
   clear n0_ n1_
   have p113 : 0 ≤ (x8_1 : Int) := zD
   have q113 : x8_1 < (y112.length : Int) := (by have h_ : (x8_1 : Int) < ((x7_1.length : Int) : Int) := zD; first | (have e_ := (Kd.R_reads' HO_7.out).1; omega) | simpa only [Ny109.out, Ny112.out, List.length_set] using h_)
   have ql113 : ((x8_1 : Int) < ((x7_1.length : Int) : Int)) = True := eq_true zD
   obtain ⟨ad113, e113, hx113_0⟩ := Kd.at_int (Kd.R_reads' HO_7.out).2.2 x8_1 p113 q113
   obtain rfl : (⟨go12, 0, none⟩ : Addr) = ad113 := (by injection e113)
   (first | simp only [add_plain] at hx113_0 | simp only [add_at] at hx113_0 | simp only [Addr.add, Nat.zero_add] at hx113_0 | skip)
   replace p113 := eq_true p113
   replace q113 := eq_true q113
   have p16 : 0 ≤ (x8_1 : Int) := zD
   have q16 : (x8_1 : Int) < ((x7_1.length : Int) : Int) := zD
   obtain ⟨hx16_0, hf16_0⟩ := Kd.R_celln 0 HO_7.out (x8_1 : Int) p16 q16
   replace p16 := eq_true p16
   replace q16 := eq_true q16
   obtain ⟨hy24_, hz24_⟩ := Kd.R_celln 0 HO_7.out (x8_1 : Int) zD zD
   have HP24 := Kd.R_putg HO_7.out (x8_1 : Int) (Int.tmod (rd y112 x8_1) a0)
   try go_wp2_with (first | ((with_reducible refine gate_store (t := 3) (p := 61) rfl ?_); refine store_event (t := 3) (p := 61) (v := ?vo_w25) (w1 := (w23.setCell ⟨go12, (x8_1 : Int).toNat, none⟩ (.int .i64 (Int.tmod (rd y112 x8_1) a0)))) ?hg ?ho ?hn ?hr ?_; (case ho => rfl); (case hg => rfl); (case hn => rfl); (case hr => go_simp <;> rfl); intro w25 hw; have hg : w23.grownBy w25 (some go12) := (by rw [hw]; exact HP24.2); have hp_ : Kd.R (Kd.int .i64) 3 w25 w.heap.size (fun k_ => (w.heap.size ≤ k_)) (.slice (some ⟨go12, 0, none⟩) x7_1.length co17) y114 := (by rw [hw, Ny114.out]; exact HP24.1); clear HP24; replace HO_7 := zm (hp_); replace HB := zm ((by rw [hw]; exact below_set (HB.out) GB12.out : Below w.heap.size w w25)); clear hg hw hp_))
   (first | go_roundg k1 | (simp only [show ∀ g_ : Nat, ({ block := g_, off := (ji4).toNat } : Addr) = ({ block := g_, off := 0 } : Addr).add (ji4).toNat from fun g_ => by simp [Addr.add]]; go_roundg k1))
   case measure => have := HK1.out; omega
   case rel => exact ⟨(y114), (wrap64 (x8_1 + 1)), zX, H', ⟨by have := HK1.out; omega⟩, ⟨zR HO_7.out⟩, ⟨zT⟩⟩
def r9Scale.l0 : Nat → Int → Int → List Int → Int → Option (List Int)
 | 0, _, _, _, _ => none
 | k + 1, x0, x2, x7, x8 => if x8 < (x7.length : Int) then (if 0 ≤ x8 then (if x0 = 0 then (none) else (r9Scale.l0 k x0 x2 (x7.set (x8 : Int).toNat (Int.tmod (wrap64 ((rd x7 x8) * x2)) x0)) (wrap64 (x8 + 1)))) else (none)) else ((r9Trim.f k x7).bind fun t107 => (some t107))
def r9Scale.f (k : Nat) (a0 : Int) (l1 : List Int) (a2 : Int) : Option (List Int) := (r4Mod.f a2 a0).bind fun t101 => ((r9Copy.f l1).bind fun t102 => (r9Scale.l0 k a0 t101 t102 0))
theorem r9Scale.mono_l : ∀ k, (∀ y0 y1 y2 y3, LeO (r9Scale.l0 k y0 y1 y2 y3) (r9Scale.l0 (k + 1) y0 y1 y2 y3))
 | 0 => fun _ _ _ _ r h => by simp [r9Scale.l0] at h
 | k + 1 => by
  have ih0 := r9Scale.mono_l k
  intro y0 y1 y2 y3
  unfold r9Scale.l0
  with_reducible repeat' first | exact ih0 _ _ _ _ | exact r9Trim.mono _ _ | exact LeO.refl _ | exact LeO.none _ | refine LeO.ite ?_ ?_ | refine LeO.bind ?_ (fun _ => ?_)
theorem r9Scale.mono : ∀ a0 a1 a2 k, LeO (r9Scale.f k a0 a1 a2) (r9Scale.f (k + 1) a0 a1 a2) := by
 intro a0 a1 a2 k
 have ih0 := r9Scale.mono_l k
 unfold r9Scale.f
 with_reducible repeat' first | exact ih0 _ _ _ _ | exact r9Trim.mono _ _ | exact LeO.refl _ | exact LeO.none _ | refine LeO.ite ?_ ?_ | refine LeO.bind ?_ (fun _ => ?_)
theorem r9Scale.calls (k : Nat) (a0 : Int) (A1 : Option Addr) (c1 : Nat) (l1 : List Int) (a2 : Int) (r : List Int) (w : World) (hr1 : Kd.C (Kd.int .i64) w A1 l1.length l1) (hc1 : l1.length ≤ c1) (h : r9Scale.f k a0 l1 a2 = some r) :
  Calls Try.prog 96 #[.int .i64 a0, .slice A1 l1.length c1, .int .i64 a2] w fun e w' => ∃ v0_ : Value, e = .returned (v0_) ∧ Kd.V (Kd.int .i64) 3 w' w.heap.size (fun k_ => (w.heap.size ≤ k_)) v0_ r ∧ Below w.heap.size w w' := by
 have HR1 := zm hr1
 have HC1 := zm hc1
 clear hr1 hc1
 have HB := zm (Below.refl w.heap.size w)
 have H := h; clear h; unfold r9Scale.f at H
 obtain ⟨t101, A4, H⟩ := zO H
 obtain ⟨t102, A5, H⟩ := zO H
 have H' := zm H
 clear H
 go_enter Try.func96, Try.ntmps96
 go_wp2_with (first | ((with_reducible refine gate_callee (f := 113) rfl ?_); refine zG (some 11) Try.func113 #[.int .i64 a2, .int .i64 a0] ?_; (with_reducible refine (r4Mod.calls a2 a0 t101 _ A4.out).mono ?_); rintro e w' ⟨rfl, ⟨nd, rfl⟩⟩; refine ⟨_, rfl, ?_⟩) | ((with_reducible refine gate_callee (f := 47) rfl ?_); refine zG (some 13) Try.func47 #[.slice A1 l1.length c1] ?_; (with_reducible refine (r9Copy.calls _ _ l1 t102 _ (zC (HR1.out)) HC1.out A5.out).mono ?_); rintro e w6 ⟨v103, rfl, ho0, hb⟩; refine ⟨_, rfl, ?_⟩; have HO104 := zm (Kd.R_lower (Kd.R_newM (M := fun k_ => (w.heap.size ≤ k_)) ho0 (zS HB) (fun k_ h_ => h_)) (zS HB)); replace HB := zBb HB hb))
 go_loopg [8] k (fun kq v8 w' => ∃ (x7_1 : List Int) (x8_1 : Int), v8 = .int .i64 x8_1 ∧ Aside0 (r9Scale.l0 kq a0 t101 x7_1 x8_1 = some r) ∧ Aside0 (kq ≤ k) ∧ Aside0 (Kd.R (Kd.int .i64) 3 w' w.heap.size (fun k_ => (w.heap.size ≤ k_)) v103 x7_1) ∧ Aside0 (Below w.heap.size w w'))
 case atStart => exact ⟨(t102), (0), zX, H', ⟨Nat.le_refl _⟩, ⟨zR (Kd.R_mono HO104.out (fun _ hk => hk.1))⟩, ⟨zT⟩⟩
 case round =>
  clear H'
  obtain ⟨x7_1, x8_1, rfl, HA, HK1, HO_7, HB⟩ := hrel
  cases gk with
  | zero => exact absurd HA.out (by simp [r9Scale.l0])
  | succ k1 =>
   have H := HA.out
   clear HA
   simp only [r9Scale.l0] at H
   by_cases c7 : x8_1 < (x7_1.length : Int)
   rotate_left
   ·rw [if_neg c7] at H
    have c7b0 := decide_eq_false c7; clear c7
    obtain ⟨t107, A14, H⟩ := zO H
    obtain rfl := Option.some.inj H
    obtain ⟨Ao15, co15, eo15⟩ := Kd.R_slice HO_7.out
    subst eo15
    go_wp2_with (first | ((with_reducible refine gate_callee (f := 41) rfl ?_); refine zG (some 32) Try.func41 #[.slice Ao15 x7_1.length co15] ?_; (with_reducible refine (r9Trim.calls k1 (fun k_ => some k_ = (.slice Ao15 x7_1.length co15 : Value).ownBlock) _ _ x7_1 t107 _ (Kd.R_V (Kd.R_tight rfl (HO_7.out))) A14.out).mono ?_); rintro e w16 ⟨v108, rfl, ho0, hb⟩; refine ⟨_, rfl, ?_⟩; have HO109 := zWV (fun k_ => (w.heap.size ≤ k_)) ho0 HB (fun k_ hk_ => Or.elim hk_ (fun hs_ => ((HO_7.out).1 k_ hs_.symm)) (fun hn_ => (Nat.le_trans (zS HB) hn_))); replace HO_7 := zRb HO_7 hb; replace HB := zBb HB hb))
    go_ret
    exact ⟨_, zQ, zV HO109.out, zT⟩
   rw [if_pos c7] at H
   have c7b0 := decide_eq_true c7; clear c7
   by_cases c8 : 0 ≤ x8_1
   rotate_left
   ·rw [if_neg c8] at H
    exact absurd H (by simp)
   rw [if_pos c8] at H
   have c8b0 := decide_eq_true c8; clear c8
   by_cases c9 : a0 = 0
   ·rw [if_pos c9] at H
    exact absurd H (by simp)
   rw [if_neg c9] at H
   obtain ⟨c9b0, c9b1⟩ := zU c9
   obtain ⟨y106, Ny106⟩ := zA ((x7_1.set (x8_1 : Int).toNat (Int.tmod (wrap64 ((rd x7_1 x8_1) * t101)) a0)) : List Int); rw [← Ny106.out] at H
   have H' := zm H
   clear H
   obtain ⟨Ao11, co11, eo11⟩ := Kd.R_slice HO_7.out
   subst eo11
   obtain ⟨p105, q105, ad105, e105, hx105_0⟩ := zI ((Kd.R_reads' HO_7.out).2.2) (x8_1) zD zD
   cases e105
   have p10 : 0 ≤ (x8_1 : Int) := zD
   have q10 : (x8_1 : Int) < ((x7_1.length : Int) : Int) := zD
   obtain ⟨go10, co10, eo10, gb10, gl10, cl10, HG10⟩ := Kd.R_form HO_7.out (by omega)
   (first | cases eo10 | (injection eo10 with ea_ en_ ec_; (first | subst ea_ | (injection ea_ with ea_; subst ea_)); subst ec_; clear en_))
   have GB10 := zm gb10
   have GG10 := zm HG10
   clear gb10 gl10 HG10
   (first | simp only [add_plain] at hx105_0 | skip)
   obtain ⟨hx10_0, hf10_0⟩ := Kd.R_celln 0 HO_7.out (x8_1 : Int) p10 q10
   replace p10 := eq_true p10
   replace q10 := eq_true q10
   have HP12 := Kd.R_putg HO_7.out (x8_1 : Int) (Int.tmod (wrap64 ((rd x7_1 x8_1) * t101)) a0)
   go_wp2_with (first | ((with_reducible refine gate_store (t := 3) (p := 30) rfl ?_); refine store_event (t := 3) (p := 30) (v := ?vo_w13) (w1 := (wr.setCell ⟨go10, (x8_1 : Int).toNat, none⟩ (.int .i64 (Int.tmod (wrap64 ((rd x7_1 x8_1) * t101)) a0)))) ?hg ?ho ?hn ?hr ?_; (case ho => rfl); (case hg => rfl); (case hn => rfl); (case hr => go_simp <;> rfl); intro w13 hw; have hg : wr.grownBy w13 (some go10) := (by rw [hw]; exact HP12.2); have hp_ : Kd.R (Kd.int .i64) 3 w13 w.heap.size (fun k_ => (w.heap.size ≤ k_)) (.slice (some ⟨go10, 0, none⟩) x7_1.length co11) y106 := (by rw [hw, Ny106.out]; exact HP12.1); clear HP12; replace HO_7 := zm (hp_); replace HB := zm ((by rw [hw]; exact below_set (HB.out) GB10.out : Below w.heap.size w w13)); clear hg hw hp_))
   go_roundg k1
   case measure => have := HK1.out; omega
   case rel => exact ⟨(y106), (wrap64 (x8_1 + 1)), zX, H', ⟨by have := HK1.out; omega⟩, ⟨zR HO_7.out⟩, ⟨zT⟩⟩
def r9Sub.f (k : Nat) (a0 : Int) (l1 : List Int) (l2 : List Int) : Option (List Int) := (r9Scale.f k a0 l2 (-1)).bind fun t101 => ((r9Add.f k a0 l1 t101).bind fun t104 => (some t104))
theorem r9Sub.mono : ∀ a0 a1 a2 k, LeO (r9Sub.f k a0 a1 a2) (r9Sub.f (k + 1) a0 a1 a2) := by
 intro a0 a1 a2 k
 unfold r9Sub.f
 with_reducible repeat' first | exact r9Add.mono _ _ _ _ | exact r9Scale.mono _ _ _ _ | exact LeO.refl _ | exact LeO.none _ | refine LeO.ite ?_ ?_ | refine LeO.bind ?_ (fun _ => ?_)
theorem r9Sub.calls (k : Nat) (a0 : Int) (A1 : Option Addr) (c1 : Nat) (l1 : List Int) (A2 : Option Addr) (c2 : Nat) (l2 : List Int) (r : List Int) (w : World) (hr1 : Kd.C (Kd.int .i64) w A1 l1.length l1) (hc1 : l1.length ≤ c1) (hr2 : Kd.C (Kd.int .i64) w A2 l2.length l2) (hc2 : l2.length ≤ c2) (h : r9Sub.f k a0 l1 l2 = some r) :
  Calls Try.prog 65 #[.int .i64 a0, .slice A1 l1.length c1, .slice A2 l2.length c2] w fun e w' => ∃ v0_ : Value, e = .returned (v0_) ∧ Kd.V (Kd.int .i64) 3 w' w.heap.size (fun k_ => (w.heap.size ≤ k_)) v0_ r ∧ Below w.heap.size w w' := by
 have HR1 := zm hr1
 have HC1 := zm hc1
 clear hr1 hc1
 have HR2 := zm hr2
 have HC2 := zm hc2
 clear hr2 hc2
 have HB := zm (Below.refl w.heap.size w)
 have H := h; clear h; unfold r9Sub.f at H
 obtain ⟨t101, A4, H⟩ := zO H
 obtain ⟨t104, A5, H⟩ := zO H
 obtain rfl := Option.some.inj H
 go_enter Try.func65, Try.ntmps65
 go_wp2_with (first | ((with_reducible refine gate_callee (f := 96) rfl ?_); refine zG (some 11) Try.func96 #[.int .i64 a0, .slice A2 l2.length c2, .int .i64 (-1)] ?_; (with_reducible refine (r9Scale.calls k a0 _ _ l2 (-1) t101 _ (zC (HR2.out)) HC2.out A4.out).mono ?_); rintro e w6 ⟨v102, rfl, ho0, hb⟩; refine ⟨_, rfl, ?_⟩; have HO103 := zWV (fun k_ => (w.heap.size ≤ k_)) ho0 HB (fun k_ hk_ => (Nat.le_trans (zS HB) hk_)); replace HB := zBb HB hb; obtain ⟨Ao7, co7, eo7⟩ := Kd.V_slice HO103.out; subst eo7) | ((with_reducible refine gate_callee (f := 64) rfl ?_); refine zG (some 12) Try.func64 #[.int .i64 a0, .slice A1 l1.length c1, .slice Ao7 t101.length co7] ?_; (with_reducible refine (r9Add.calls k a0 _ _ l1 _ _ t101 t104 _ (zC (Kd.C_below HR1.out HB.out)) HC1.out (zC ((Kd.V_reads' HO103.out).2.2)) ((Kd.V_reads' HO103.out).2.1) A5.out).mono ?_); rintro e w8 ⟨v105, rfl, ho0, hb⟩; refine ⟨_, rfl, ?_⟩; replace HO103 := zVb HO103 hb; have HO106 := zWV (fun k_ => (w.heap.size ≤ k_)) ho0 HB (fun k_ hk_ => (Nat.le_trans (zS HB) hk_)); replace HB := zBb HB hb))
 go_ret
 exact ⟨_, zQ, zV HO106.out, zT⟩
def r4Inverse.l0 : Nat → Int → Int → Int → Int → Int → Option (Int)
 | 0, _, _, _, _, _ => none
 | k + 1, x1, x5, x6, x7, x8 => if x6 > 0 then (if x6 = 0 then (none) else (r4Inverse.l0 k x1 x6 (wrap64 (x5 - (wrap64 ((wrap64 (Int.tdiv x5 x6)) * x6)))) x8 (wrap64 (x7 - (wrap64 ((wrap64 (Int.tdiv x5 x6)) * x8)))))) else ((r4Mod.f x7 x1).bind fun t102 => (some t102))
def r4Inverse.f (k : Nat) (a0 : Int) (a1 : Int) : Option (Int) := (r4Mod.f a0 a1).bind fun t101 => (r4Inverse.l0 k a1 a1 t101 0 1)
theorem r4Inverse.mono_l : ∀ k, (∀ y0 y1 y2 y3 y4, LeO (r4Inverse.l0 k y0 y1 y2 y3 y4) (r4Inverse.l0 (k + 1) y0 y1 y2 y3 y4))
 | 0 => fun _ _ _ _ _ r h => by simp [r4Inverse.l0] at h
 | k + 1 => by
  have ih0 := r4Inverse.mono_l k
  intro y0 y1 y2 y3 y4
  unfold r4Inverse.l0
  with_reducible repeat' first | exact ih0 _ _ _ _ _ | exact LeO.refl _ | exact LeO.none _ | refine LeO.ite ?_ ?_ | refine LeO.bind ?_ (fun _ => ?_)
theorem r4Inverse.mono : ∀ a0 a1 k, LeO (r4Inverse.f k a0 a1) (r4Inverse.f (k + 1) a0 a1) := by
 intro a0 a1 k
 have ih0 := r4Inverse.mono_l k
 unfold r4Inverse.f
 with_reducible repeat' first | exact ih0 _ _ _ _ _ | exact LeO.refl _ | exact LeO.none _ | refine LeO.ite ?_ ?_ | refine LeO.bind ?_ (fun _ => ?_)
theorem r4Inverse.calls (k : Nat) (a0 : Int) (a1 : Int) (r : Int) (w : World) (h : r4Inverse.f k a0 a1 = some r) :
  Calls Try.prog 120 #[.int .i64 a0, .int .i64 a1] w fun e w' => e = .returned (.int .i64 r) ∧ Drawn0 w w' := by
 have H := h; clear h; unfold r4Inverse.f at H
 obtain ⟨t101, A3, H⟩ := zO H
 have H' := zm H
 clear H
 go_enter Try.func120, Try.ntmps120
 go_wp2_with (first | ((with_reducible refine gate_callee (f := 113) rfl ?_); refine zG (some 13) Try.func113 #[.int .i64 a0, .int .i64 a1] ?_; (with_reducible refine (r4Mod.calls a0 a1 t101 _ A3.out).mono ?_); rintro e w' ⟨rfl, ⟨nd, rfl⟩⟩; refine ⟨_, rfl, ?_⟩))
 go_loopg [5, 6, 7, 8] k (fun kq v5 v6 v7 v8 w' => ∃ (x5_1 : Int) (x6_1 : Int) (x7_1 : Int) (x8_1 : Int), v5 = .int .i64 x5_1 ∧ v6 = .int .i64 x6_1 ∧ v7 = .int .i64 x7_1 ∧ v8 = .int .i64 x8_1 ∧ Aside0 (r4Inverse.l0 kq a1 x5_1 x6_1 x7_1 x8_1 = some r) ∧ Aside0 (kq ≤ k) ∧ Drawn0 w w')
 case atStart => exact ⟨(a1), (t101), (0), (1), zX, zX, zX, zX, H', ⟨Nat.le_refl _⟩, by repeat (first | exact Drawn0.refl _ | apply Drawn0.step)⟩
 case round =>
  clear H'
  obtain ⟨x5_1, x6_1, x7_1, x8_1, rfl, rfl, rfl, rfl, HA, HK1, ⟨m1, rfl⟩⟩ := hrel
  cases gk with
  | zero => exact absurd HA.out (by simp [r4Inverse.l0])
  | succ k1 =>
   have H := HA.out
   clear HA
   simp only [r4Inverse.l0] at H
   by_cases c4 : x6_1 > 0
   rotate_left
   ·rw [if_neg c4] at H
    have c4b0 := decide_eq_false c4; clear c4
    obtain ⟨t102, A6, H⟩ := zO H
    obtain rfl := Option.some.inj H
    go_wp2_with (first | ((with_reducible refine gate_callee (f := 113) rfl ?_); refine zG (some 33) Try.func113 #[.int .i64 x7_1, .int .i64 a1] ?_; (with_reducible refine (r4Mod.calls x7_1 a1 t102 _ A6.out).mono ?_); rintro e w' ⟨rfl, ⟨nd, rfl⟩⟩; refine ⟨_, rfl, ?_⟩))
    go_ret
    exact ⟨by first | rfl | (simp; done) | (simp [*]; done), by repeat (first | exact Drawn0.refl _ | apply Drawn0.step)⟩
   rw [if_pos c4] at H
   have c4b0 := decide_eq_true c4; clear c4
   by_cases c5 : x6_1 = 0
   ·rw [if_pos c5] at H
    exact absurd H (by simp)
   rw [if_neg c5] at H
   obtain ⟨c5b0, c5b1⟩ := zU c5
   have H' := zm H
   clear H
   go_wp2
   go_roundg k1
   case measure => have := HK1.out; omega
   case rel => exact ⟨(x6_1), (wrap64 (x5_1 - (wrap64 ((wrap64 (Int.tdiv x5_1 x6_1)) * x6_1)))), (x8_1), (wrap64 (x7_1 - (wrap64 ((wrap64 (Int.tdiv x5_1 x6_1)) * x8_1)))), zX, zX, zX, zX, H', ⟨by have := HK1.out; omega⟩, by repeat (first | exact Drawn0.refl _ | apply Drawn0.step)⟩
mutual
def r9DivMod.l0 : Nat → Int → List Int → List Int → Int → List Int → Int → Int → Option (List Int × List Int)
 | 0, _, _, _, _, _, _, _ => none
 | k + 1, x0, x2, x8, x9, x10, x11, x12 => if x12 ≥ 0 then (if 0 ≤ (wrap64 (x12 + x9)) then (if (wrap64 (x12 + x9)) < (x8.length : Int) then (if x0 = 0 then (none) else (if 0 ≤ x12 then (if x12 < (x10.length : Int) then (r9DivMod.l1 k x0 x2 x8 x9 (x10.set (x12 : Int).toNat (Int.tmod (wrap64 ((rd x8 (wrap64 (x12 + x9))) * x11)) x0)) x11 x12 (Int.tmod (wrap64 ((rd x8 (wrap64 (x12 + x9))) * x11)) x0) 0) else (none)) else (none))) else (none)) else (none)) else ((r9Trim.f k x10).bind fun t109 => ((r9Trim.f k x8).bind fun t112 => (some (t109, t112))))
def r9DivMod.l1 : Nat → Int → List Int → List Int → Int → List Int → Int → Int → Int → Int → Option (List Int × List Int)
 | 0, _, _, _, _, _, _, _, _, _ => none
 | k + 1, x0, x2, x8, x9, x10, x11, x12, x13, x14 => if x14 ≤ x9 then (if 0 ≤ (wrap64 (x12 + x14)) then (if (wrap64 (x12 + x14)) < (x8.length : Int) then (if 0 ≤ x14 then (if x14 < (x2.length : Int) then (if x0 = 0 then (none) else (r9DivMod.l1 k x0 x2 (x8.set ((wrap64 (x12 + x14)) : Int).toNat (Int.tmod (wrap64 ((rd x8 (wrap64 (x12 + x14))) + (wrap64 ((wrap64 (x0 - x13)) * (rd x2 x14))))) x0)) x9 x10 x11 x12 x13 (wrap64 (x14 + 1)))) else (none)) else (none)) else (none)) else (none)) else (r9DivMod.l0 k x0 x2 x8 x9 x10 x11 (wrap64 (x12 - 1)))
end
def r9DivMod.f (k : Nat) (a0 : Int) (l1 : List Int) (l2 : List Int) : Option (List Int × List Int) := (r9Copy.f l1).bind fun t101 => (if 0 ≤ (mx 0 (wrap64 ((l1.length : Int) - (wrap64 ((l2.length : Int) - 1))))) then (if (mx 0 (wrap64 ((l1.length : Int) - (wrap64 ((l2.length : Int) - 1)))) : Int).toNat ≤ 35184372088832 then ((some (List.replicate (mx 0 (wrap64 ((l1.length : Int) - (wrap64 ((l2.length : Int) - 1)))) : Int).toNat 0 : List Int)).bind fun y104 => (if 0 ≤ (wrap64 ((l2.length : Int) - 1)) then (if (wrap64 ((l2.length : Int) - 1)) < (l2.length : Int) then ((r4Inverse.f k (rd l2 (wrap64 ((l2.length : Int) - 1))) a0).bind fun t108 => (r9DivMod.l0 k a0 l2 t101 (wrap64 ((l2.length : Int) - 1)) y104 t108 (wrap64 ((y104.length : Int) - 1)))) else (none)) else (none))) else (none)) else (none))
theorem r9DivMod.mono_l : ∀ k, (∀ y0 y1 y2 y3 y4 y5 y6, LeO (r9DivMod.l0 k y0 y1 y2 y3 y4 y5 y6) (r9DivMod.l0 (k + 1) y0 y1 y2 y3 y4 y5 y6)) ∧ (∀ y0 y1 y2 y3 y4 y5 y6 y7 y8, LeO (r9DivMod.l1 k y0 y1 y2 y3 y4 y5 y6 y7 y8) (r9DivMod.l1 (k + 1) y0 y1 y2 y3 y4 y5 y6 y7 y8))
 | 0 => ⟨fun _ _ _ _ _ _ _ r h => by simp [r9DivMod.l0] at h, fun _ _ _ _ _ _ _ _ _ r h => by simp [r9DivMod.l1] at h⟩
 | k + 1 => by
  obtain ⟨ih0, ih1⟩ := r9DivMod.mono_l k
  refine ⟨?_, ?_⟩
  ·intro y0 y1 y2 y3 y4 y5 y6
   unfold r9DivMod.l0
   with_reducible repeat' first | exact ih0 _ _ _ _ _ _ _ | exact ih1 _ _ _ _ _ _ _ _ _ | exact r4Inverse.mono _ _ _ | exact r9Trim.mono _ _ | exact LeO.refl _ | exact LeO.none _ | refine LeO.ite ?_ ?_ | refine LeO.bind ?_ (fun _ => ?_)
  intro y0 y1 y2 y3 y4 y5 y6 y7 y8
  unfold r9DivMod.l1
  with_reducible repeat' first | exact ih0 _ _ _ _ _ _ _ | exact ih1 _ _ _ _ _ _ _ _ _ | exact r4Inverse.mono _ _ _ | exact r9Trim.mono _ _ | exact LeO.refl _ | exact LeO.none _ | refine LeO.ite ?_ ?_ | refine LeO.bind ?_ (fun _ => ?_)
theorem r9DivMod.mono : ∀ a0 a1 a2 k, LeO (r9DivMod.f k a0 a1 a2) (r9DivMod.f (k + 1) a0 a1 a2) := by
 intro a0 a1 a2 k
 obtain ⟨ih0, ih1⟩ := r9DivMod.mono_l k
 unfold r9DivMod.f
 with_reducible repeat' first | exact ih0 _ _ _ _ _ _ _ | exact ih1 _ _ _ _ _ _ _ _ _ | exact r4Inverse.mono _ _ _ | exact r9Trim.mono _ _ | exact LeO.refl _ | exact LeO.none _ | refine LeO.ite ?_ ?_ | refine LeO.bind ?_ (fun _ => ?_)
def r9DivMod.T13 : Bool × List (List Nat × List Nat) := (true, [([], []), ([], []), ([], []), ([1, 2], [1, 2]), ([], []), ([], []), ([], []), ([5, 6], [5, 6]), ([4, 7], [4, 7]), ([8], [8]), ([], []), ([], []), ([10, 11], [10, 11]), ([], []), ([], []), ([13, 14], [13, 14]), ([15], [15]), ([12, 16], [12, 16]), ([9, 17], [9, 17]), ([], []), ([18, 19], [18, 19]), ([0, 3, 0, 1, 2, 3, 4, 5, 6, 7, 8, 9, 10, 11, 12, 13, 14, 15, 16, 17, 18, 19, 20], [0, 3]), ([21, 20, 0, 1, 2, 3, 4, 5, 6, 7, 8, 9, 10, 11, 12, 13, 14, 15, 16, 17, 18, 19, 20], [20, 21])])
def r9DivMod.B13 : List Nat := [0, 0, 0, 6, 0, 0, 0, 96, 240, 496, 0, 0, 3072, 0, 0, 24576, 57344, 130048, 262128, 0, 1048560, 2097151, 4194303]
theorem r9DivMod.tab13 : rtab .any (opsOf Try.f108 13) = r9DivMod.T13 := by kernel_rfl
theorem r9DivMod.bits13 : waitsOk r9DivMod.T13.2 r9DivMod.B13 = true := by kernel_rfl
theorem r9DivMod.calls (k : Nat) (a0 : Int) (A1 : Option Addr) (c1 : Nat) (l1 : List Int) (A2 : Option Addr) (c2 : Nat) (l2 : List Int) (r1 : List Int) (r2 : List Int) (w : World) (hr1 : Kd.C (Kd.int .i64) w A1 l1.length l1) (hc1 : l1.length ≤ c1) (hr2 : Kd.C (Kd.int .i64) w A2 l2.length l2) (hc2 : l2.length ≤ c2) (h : r9DivMod.f k a0 l1 l2 = some (r1, r2)) :
  Calls Try.prog 108 #[.int .i64 a0, .slice A1 l1.length c1, .slice A2 l2.length c2] w fun e w' => ∃ v0_ v1_ : Value, e = .returned (.tuple #[v0_, v1_]) ∧ Kd.V (Kd.int .i64) 3 w' w.heap.size (fun k_ => (w.heap.size ≤ k_)) v0_ r1 ∧ Kd.V (Kd.int .i64) 3 w' w.heap.size (fun k_ => (w.heap.size ≤ k_)) v1_ r2 ∧ Below w.heap.size w w' := by
 have HR1 := zm hr1
 have HC1 := zm hc1
 clear hr1 hc1
 have HR2 := zm hr2
 have HC2 := zm hc2
 clear hr2 hc2
 have HB := zm (Below.refl w.heap.size w)
 have H := h; clear h; unfold r9DivMod.f at H
 obtain ⟨t101, A4, H⟩ := zO H
 obtain ⟨ji5, hji5⟩ : ∃ j_ : Int, (mx 0 (wrap64 ((l1.length : Int) - (wrap64 ((l2.length : Int) - 1))))) = j_ := ⟨_, rfl⟩
 first | rw [hji5] at H | simp only [hji5] at H
 (try rw [hji5] at A4)
 (try (have hji5l : 0 ≤ ji5 := by (rw [← hji5]; unfold mx; (repeat' split) <;> omega)))
 (try (have hji5m : 0 ≤ ji5 := by omega))
 have hji5_ : (if 0 < (wrap64 ((l1.length : Int) - (wrap64 ((l2.length : Int) - 1)))) then (wrap64 ((l1.length : Int) - (wrap64 ((l2.length : Int) - 1)))) else 0) = ji5 := hji5
 by_cases c6 : 0 ≤ (ji5)
 rotate_left
 ·rw [if_neg c6] at H
  exact absurd H (by simp)
 rw [if_pos c6] at H
 have c6b0 := eq_true c6; have c6b1 := decide_eq_true c6; clear c6
 by_cases c7 : (ji5 : Int).toNat ≤ 35184372088832
 rotate_left
 ·rw [if_neg c7] at H
  exact absurd H (by simp)
 rw [if_pos c7] at H
 have c7b0 := eq_true c7; have c7b1 := decide_eq_true c7; clear c7
 obtain ⟨y104, Ny104, H⟩ := zY H
 obtain ⟨ji8, hji8⟩ : ∃ j_ : Int, (wrap64 ((l2.length : Int) - 1)) = j_ := ⟨_, rfl⟩
 (try (have hji5__ji8 := hji5_; simp only [hji8] at hji5__ji8))
 first | rw [hji8] at H | simp only [hji8] at H
 (try rw [hji8] at A4)
 have hji8w : (IntKind.i64.wrap ((l2.length : Int) - 1)) = ji8 := (i64_w _).trans hji8
 by_cases c9 : 0 ≤ (ji8)
 rotate_left
 ·rw [if_neg c9] at H
  exact absurd H (by simp)
 rw [if_pos c9] at H
 have c9b0 := decide_eq_true c9; clear c9
 by_cases c10 : (ji8) < (l2.length : Int)
 rotate_left
 ·rw [if_neg c10] at H
  exact absurd H (by simp)
 rw [if_pos c10] at H
 have c10b0 := decide_eq_true c10; clear c10
 obtain ⟨t108, A11, H⟩ := zO H
 have H' := zm H
 clear H
 go_enter Try.func108, Try.ntmps108
 go_wp2_with (first | ((with_reducible refine gate_callee (f := 47) rfl ?_); refine zG (some 16) Try.func47 #[.slice A1 l1.length c1] ?_; (with_reducible refine (r9Copy.calls _ _ l1 t101 _ (zC (HR1.out)) HC1.out A4.out).mono ?_); rintro e w12 ⟨v102, rfl, ho0, hb⟩; refine ⟨_, rfl, ?_⟩; have HO103 := zm (Kd.R_lower (Kd.R_newM (M := fun k_ => (w.heap.size ≤ k_)) ho0 (zS HB) (fun k_ h_ => h_)) (zS HB)); replace HB := zBb HB hb) | ((with_reducible refine gate_dst (N := 25) rfl ?_); refine Kd.R_make (Kd.int .i64) _ 3 rfl (N := 25) rfl 25 _ _ rfl ji5 rfl rfl Try.underlying25 (.int .i64 0) 8 info3 rfl (by decide) (by omega) 0 (ok := fun _ => True) (okp := fun _ => True) rfl (fun _ hk => hk) trivial zD (Nat.le_trans (Nat.mul_le_mul_right _ (zD : ji5.toNat ≤ 35184372088832)) (by omega)) (Below.refl _ _) (Nat.le_refl _) ?_; intro v105 w13 ho14 hb hg_ hnew_; clear hg_ hnew_; (first | rw [← Ny104.out] at ho14 | (simp only [Int.reduceToNat] at ho14; rw [← Ny104.out] at ho14)); have HO106 := zm (Kd.R_lower (Kd.R_new' (Kd.R_newM (M := fun k_ => (w.heap.size ≤ k_)) ho14 (zS HB) (fun k_ h_ => h_)) (Kd.R_lt (zR HO103.out))) (zS HB)); replace HO103 := zm (Kd.R_elder' (zR HO103.out) (Kd.R_base ho14) hb); replace HB := zBb HB hb; clear hb ho14; have p107 : 0 ≤ ((ji8) : Int) := zD; have q107 : (ji8) < (l2.length : Int) := zD; obtain ⟨ad107, e107, hx107_0⟩ := Kd.at_int HR2.out (ji8) p107 q107; cases e107; replace hx107_0 := (HB.out.cell (World.block_lt_of_cell? w _ hx107_0)).trans hx107_0; replace p107 := eq_true p107; replace q107 := eq_true q107) | ((with_reducible refine gate_callee (f := 120) rfl ?_); refine zH (some 31) Try.func120 #[.int .i64 (rd l2 (ji8)), .int .i64 a0] rfl (by (try simp only [List.map_toArray, List.map_cons, List.map_nil]); first | done | (simp only [hji8]; rfl) | rfl | (simp only [List.length_drop, List.length_take]; rfl)) ?_; (with_reducible refine (r4Inverse.calls k (rd l2 (ji8)) a0 t108 _ A11.out).mono ?_); rintro e w' ⟨rfl, ⟨nd, rfl⟩⟩; refine ⟨_, rfl, ?_⟩; obtain ⟨Ao15, co15, eo15⟩ := Kd.R_slice HO106.out; subst eo15))
 go_loopg [12] k (fun kq v12 w' => ∃ (x8_1 : List Int) (x10_1 : List Int) (x12_1 : Int), v12 = .int .i64 x12_1 ∧ Aside0 (r9DivMod.l0 kq a0 l2 x8_1 ji8 x10_1 t108 x12_1 = some (r1, r2)) ∧ Aside0 (kq ≤ k) ∧ Aside0 (Kd.R (Kd.int .i64) 3 w' w.heap.size (fun k_ => (w.heap.size ≤ k_) ∧ some k_ ≠ ((.slice Ao15 y104.length co15) : Value).ownBlock) v102 x8_1) ∧ Aside0 (Kd.R (Kd.int .i64) 3 w' w.heap.size (fun k_ => (w.heap.size ≤ k_) ∧ some k_ ≠ (v102 : Value).ownBlock) (.slice Ao15 y104.length co15) x10_1) ∧ Aside0 (Below w.heap.size w w'))
 case atStart => exact ⟨(t101), (y104), (wrap64 ((y104.length : Int) - 1)), zX, H', ⟨Nat.le_refl _⟩, ⟨zR (Kd.R_mono HO103.out (fun _ hk => ⟨hk.1.1, hk.2⟩))⟩, ⟨zR (Kd.R_mono HO106.out (fun _ hk => ⟨hk.1.1, hk.2⟩))⟩, ⟨zT⟩⟩
 case round =>
  clear H'
  obtain ⟨x8_1, x10_1, x12_1, rfl, HA, HK1, HO_8, HO_10, HB⟩ := hrel
  have hl10_1 := (Kd.R_reads' HO_10.out).1
  rw [hl10_1] at HO_10
  (try simp only [hl10_1])
  (try simp only [hl10_1] at HO_8)
  cases gk with
  | zero => exact absurd HA.out (by simp [r9DivMod.l0])
  | succ k1 =>
   have H := HA.out
   clear HA
   simp only [r9DivMod.l0] at H
   by_cases c16 : x12_1 ≥ 0
   rotate_left
   ·rw [if_neg c16] at H
    have c16b0 := decide_eq_false c16; clear c16
    obtain ⟨t109, A37, H⟩ := zO H
    obtain ⟨t112, A38, H⟩ := zO H
    simp only [Option.some.injEq, Prod.mk.injEq] at H
    obtain ⟨rfl, rfl⟩ := H
    go_wp2_with (first | ((with_reducible refine gate_callee (f := 41) rfl ?_); refine zG (some 81) Try.func41 #[.slice Ao15 x10_1.length co15] ?_; (with_reducible refine (r9Trim.calls k1 (fun k_ => some k_ = (.slice Ao15 x10_1.length co15 : Value).ownBlock) _ _ x10_1 t109 _ (Kd.R_V (Kd.R_tight rfl (HO_10.out))) A37.out).mono ?_); rintro e w39 ⟨v110, rfl, ho0, hb⟩; refine ⟨_, rfl, ?_⟩; have HO111 := zWV (fun k_ => (w.heap.size ≤ k_) ∧ some k_ ≠ (v102 : Value).ownBlock) ho0 HB (fun k_ hk_ => ⟨Or.elim hk_ (fun hs_ => ((HO_10.out).1 k_ hs_.symm).1) (fun hn_ => (Nat.le_trans (zS HB) hn_)), Or.elim hk_ (fun hs_ => ((HO_10.out).1 k_ hs_.symm).2) (fun hn_ => (Kd.fresh' (Kd.R_lt (zR HO_8.out)) k_ hn_))⟩); replace HO_8 := zRb HO_8 hb; replace HO_10 := zRb HO_10 hb; replace HB := zBb HB hb; obtain ⟨Ao40, co40, eo40⟩ := Kd.R_slice HO_8.out; subst eo40) | ((with_reducible refine gate_callee (f := 41) rfl ?_); refine zG (some 83) Try.func41 #[.slice Ao40 x8_1.length co40] ?_; (with_reducible refine (r9Trim.calls k1 (fun k_ => some k_ = (.slice Ao40 x8_1.length co40 : Value).ownBlock) _ _ x8_1 t112 _ (Kd.R_V (Kd.R_tight rfl (HO_8.out))) A38.out).mono ?_); rintro e w41 ⟨v113, rfl, ho0, hb⟩; refine ⟨_, rfl, ?_⟩; replace HO111 := zVb HO111 hb; have HO114 := zWV (fun k_ => (w.heap.size ≤ k_) ∧ some k_ ≠ (.slice Ao15 x10_1.length co15 : Value).ownBlock) ho0 HB (fun k_ hk_ => ⟨Or.elim hk_ (fun hs_ => ((HO_8.out).1 k_ hs_.symm).1) (fun hn_ => (Nat.le_trans (zS HB) hn_)), Or.elim hk_ (fun hs_ => ((HO_8.out).1 k_ hs_.symm).2) (fun hn_ => (Kd.fresh' (Kd.R_lt (zR HO_10.out)) k_ hn_))⟩); replace HO_8 := zRb HO_8 hb; replace HO_10 := zRb HO_10 hb; replace HB := zBb HB hb))
    go_ret2
    exact ⟨_, _, by first | rfl | (simp [errW_none, errW_some] <;> rfl) | (simp only [← hji5, ← hji8]; first | rfl | (simp [errW_none, errW_some] <;> rfl)) | (simp [*, errW_none, errW_some] <;> rfl), zV (Kd.V_mono HO111.out (fun _ hk => hk.1)), zV (Kd.V_mono HO114.out (fun _ hk => hk.1)), zT⟩
   rw [if_pos c16] at H
   have c16b0 := decide_eq_true c16; clear c16
   obtain ⟨ji17, hji17⟩ : ∃ j_ : Int, (wrap64 (x12_1 + ji8)) = j_ := ⟨_, rfl⟩
   first | rw [hji17] at H | simp only [hji17] at H
   have hji17w : (IntKind.i64.wrap (x12_1 + ji8)) = ji17 := (i64_w _).trans hji17
   by_cases c18 : 0 ≤ (ji17)
   rotate_left
   ·rw [if_neg c18] at H
    exact absurd H (by simp)
   rw [if_pos c18] at H
   have c18b0 := decide_eq_true c18; clear c18
   by_cases c19 : (ji17) < (x8_1.length : Int)
   rotate_left
   ·rw [if_neg c19] at H
    exact absurd H (by simp)
   rw [if_pos c19] at H
   have c19b0 : decide ((ji17) < (x8_1.length : Int)) = true := decide_eq_true c19
   (try (have c19b0_hl10_1 := c19b0; simp only [hl10_1] at c19b0_hl10_1))
   clear c19
   by_cases c20 : a0 = 0
   ·rw [if_pos c20] at H
    exact absurd H (by simp)
   rw [if_neg c20] at H
   obtain ⟨c20b0, c20b1⟩ := zU c20
   by_cases c21 : 0 ≤ x12_1
   rotate_left
   ·rw [if_neg c21] at H
    exact absurd H (by simp)
   rw [if_pos c21] at H
   have c21b0 := decide_eq_true c21; clear c21
   by_cases c22 : x12_1 < (x10_1.length : Int)
   rotate_left
   ·rw [if_neg c22] at H
    exact absurd H (by simp)
   rw [if_pos c22] at H
   have c22b0 : decide (x12_1 < (x10_1.length : Int)) = true := decide_eq_true c22
   (try (have c22b0_hl10_1 := c22b0; simp only [hl10_1] at c22b0_hl10_1))
   clear c22
   obtain ⟨y116, Ny116⟩ := zA ((x10_1.set (x12_1 : Int).toNat (Int.tmod (wrap64 ((rd x8_1 (ji17)) * t108)) a0)) : List Int); rw [← Ny116.out] at H
   have H' := zm H
   clear H
   obtain ⟨Ao24, co24, eo24⟩ := Kd.R_slice HO_8.out
   subst eo24
   obtain ⟨p115, q115, ad115, e115, hx115_0⟩ := zI ((Kd.R_reads' HO_8.out).2.2) ((ji17)) zD zD
   cases e115
   have p23 : 0 ≤ (x12_1 : Int) := zD
   have q23 : (x12_1 : Int) < ((x10_1.length : Int) : Int) := zD
   obtain ⟨go23, co23, eo23, gb23, gl23, cl23, HG23⟩ := Kd.R_form HO_10.out (by omega)
   (first | cases eo23 | (injection eo23 with ea_ en_ ec_; (first | subst ea_ | (injection ea_ with ea_; subst ea_)); subst ec_; clear en_))
   have GB23 := zm gb23
   have GG23 := zm HG23
   clear gb23 gl23 HG23
   obtain ⟨hx23_0, hf23_0⟩ := Kd.R_celln 0 HO_10.out (x12_1 : Int) p23 q23
   replace p23 := eq_true p23
   replace q23 := eq_true q23
   have HP25 := Kd.R_putg HO_10.out (x12_1 : Int) (Int.tmod (wrap64 ((rd x8_1 (ji17)) * t108)) a0)
   go_wp2_with (first | ((with_reducible refine gate_store (t := 3) (p := 52) rfl ?_); refine store_event (t := 3) (p := 52) (v := ?vo_w26) (w1 := (wr.setCell ⟨go23, (x12_1 : Int).toNat, none⟩ (.int .i64 (Int.tmod (wrap64 ((rd x8_1 (ji17)) * t108)) a0)))) ?hg ?ho ?hn ?hr ?_; (case ho => rfl); (case hg => rfl); (case hn => rfl); (case hr => go_simp <;> rfl); intro w26 hw; have hg : wr.grownBy w26 (some go23) := (by rw [hw]; exact HP25.2); have hp_ : Kd.R (Kd.int .i64) 3 w26 w.heap.size (fun k_ => (w.heap.size ≤ k_) ∧ some k_ ≠ (.slice (some ad115) x8_1.length co24 : Value).ownBlock) (.slice (some ⟨go23, 0, none⟩) x10_1.length co15) y116 := (by rw [hw, Ny116.out]; exact HP25.1); clear HP25; replace HO_8 := zm (Kd.R_after (v := (.slice (some ⟨go23, 0, none⟩) x10_1.length co15)) (v1 := (.slice (some ⟨go23, 0, none⟩) x10_1.length co15)) (ok := (fun k_ => (w.heap.size ≤ k_))) (zR HO_8.out) hg (.inl rfl)); replace HO_10 := zm (hp_); replace HB := zm ((by rw [hw]; exact below_set (HB.out) GB23.out : Below w.heap.size w w26)); clear hg hw hp_))
   go_loopg [14] k1 (fun kq v14 w' => ∃ (x8_2 : List Int) (x14_2 : Int), v14 = .int .i64 x14_2 ∧ Aside0 (r9DivMod.l1 kq a0 l2 x8_2 ji8 y116 t108 x12_1 (Int.tmod (wrap64 ((rd x8_1 (ji17)) * t108)) a0) x14_2 = some (r1, r2)) ∧ Aside0 (kq ≤ k1) ∧ Aside0 (Kd.R (Kd.int .i64) 3 w' w.heap.size (fun k_ => (w.heap.size ≤ k_) ∧ some k_ ≠ ((.slice (some ⟨go23, 0, none⟩) x10_1.length co15) : Value).ownBlock) (.slice (some ad115) x8_1.length co24) x8_2) ∧ Aside0 (Kd.R (Kd.int .i64) 3 w' w.heap.size (fun k_ => (w.heap.size ≤ k_) ∧ some k_ ≠ ((.slice (some ad115) x8_1.length co24) : Value).ownBlock) (.slice (some ⟨go23, 0, none⟩) x10_1.length co15) y116) ∧ Aside0 (Below w.heap.size w w'))
   case atStart => exact ⟨(x8_1), (0), zX, H', ⟨Nat.le_refl _⟩, ⟨by (try simp only [hl10_1]); (with_reducible repeat (first | apply Kd.R_alloc | apply Kd.R_drewN | apply Kd.R_drew)); exact HO_8.out⟩, ⟨by (try simp only [hl10_1]); (with_reducible repeat (first | apply Kd.R_alloc | apply Kd.R_drewN | apply Kd.R_drew)); exact HO_10.out⟩, ⟨zT⟩⟩
   case round =>
    clear H'
    obtain ⟨x8_2, x14_2, rfl, HA, HK2, HO_8, HO_10, HB⟩ := hrel
    have hl8_2 := (Kd.R_reads' HO_8.out).1
    rw [hl8_2] at HO_8
    (try simp only [hl8_2])
    (try simp only [hl8_2] at HO_10)
    have hl10_2 := (Kd.R_reads' HO_10.out).1
    rw [hl10_2] at HO_10
    (try simp only [hl10_2])
    (try simp only [hl10_2] at HO_8)
    cases gk with
    | zero => exact absurd HA.out (by simp [r9DivMod.l1])
    | succ k2 =>
     have H := HA.out
     clear HA
     simp only [r9DivMod.l1] at H
     by_cases c27 : x14_2 ≤ ji8
     rotate_left
     ·rw [if_neg c27] at H
      have c27b0 := decide_eq_false c27; clear c27
      have H' := zm H
      clear H
      go_wp2
      (try simp only [← hl10_1, ← hl8_2, ← hl10_2])
      (first | go_roundg k2 | (simp only [show ∀ g_ : Nat, ({ block := g_, off := (ji5).toNat } : Addr) = ({ block := g_, off := 0 } : Addr).add (ji5).toNat from fun g_ => by simp [Addr.add], show ∀ g_ : Nat, ({ block := g_, off := (ji8).toNat } : Addr) = ({ block := g_, off := 0 } : Addr).add (ji8).toNat from fun g_ => by simp [Addr.add], show ∀ g_ : Nat, ({ block := g_, off := (ji17).toNat } : Addr) = ({ block := g_, off := 0 } : Addr).add (ji17).toNat from fun g_ => by simp [Addr.add]]; go_roundg k2))
      case measure => have := HK1.out; have := HK2.out; omega
      case rel => exact ⟨(x8_2), (y116), (wrap64 (x12_1 - 1)), zX, H', ⟨by have := HK1.out; have := HK2.out; omega⟩, ⟨by (try simp only [hl10_1]); (try simp only [hl8_2]); (try simp only [hl10_2]); (with_reducible repeat (first | apply Kd.R_alloc | apply Kd.R_drewN | apply Kd.R_drew)); exact HO_8.out⟩, ⟨by (try simp only [hl10_1]); (try simp only [hl8_2]); (try simp only [hl10_2]); (with_reducible repeat (first | apply Kd.R_alloc | apply Kd.R_drewN | apply Kd.R_drew)); exact HO_10.out⟩, ⟨zT⟩⟩
     rw [if_pos c27] at H
     have c27b0 := decide_eq_true c27; clear c27
     obtain ⟨ji28, hji28⟩ : ∃ j_ : Int, (wrap64 (x12_1 + x14_2)) = j_ := ⟨_, rfl⟩
     first | rw [hji28] at H | simp only [hji28] at H
     have hji28w : (IntKind.i64.wrap (x12_1 + x14_2)) = ji28 := (i64_w _).trans hji28
     by_cases c29 : 0 ≤ (ji28)
     rotate_left
     ·rw [if_neg c29] at H
      exact absurd H (by simp)
     rw [if_pos c29] at H
     have c29b0 := decide_eq_true c29; clear c29
     by_cases c30 : (ji28) < (x8_2.length : Int)
     rotate_left
     ·rw [if_neg c30] at H
      exact absurd H (by simp)
     rw [if_pos c30] at H
     have c30b0 : decide ((ji28) < (x8_2.length : Int)) = true := decide_eq_true c30
     (try (have c30b0_hl10_1 := c30b0; simp only [hl10_1] at c30b0_hl10_1))
     (try (have c30b0_hl8_2 := c30b0; simp only [hl8_2] at c30b0_hl8_2))
     (try (have c30b0_hl10_2 := c30b0; simp only [hl10_2] at c30b0_hl10_2))
     clear c30
     by_cases c31 : 0 ≤ x14_2
     rotate_left
     ·rw [if_neg c31] at H
      exact absurd H (by simp)
     rw [if_pos c31] at H
     have c31b0 := decide_eq_true c31; clear c31
     by_cases c32 : x14_2 < (l2.length : Int)
     rotate_left
     ·rw [if_neg c32] at H
      exact absurd H (by simp)
     rw [if_pos c32] at H
     have c32b0 : decide (x14_2 < (l2.length : Int)) = true := decide_eq_true c32
     (try (have c32b0_hl10_1 := c32b0; simp only [hl10_1] at c32b0_hl10_1))
     (try (have c32b0_hl8_2 := c32b0; simp only [hl8_2] at c32b0_hl8_2))
     (try (have c32b0_hl10_2 := c32b0; simp only [hl10_2] at c32b0_hl10_2))
     clear c32
     by_cases c33 : a0 = 0
     ·rw [if_pos c33] at H
      exact absurd H (by simp)
     rw [if_neg c33] at H
     obtain ⟨c33b0, c33b1⟩ := zU c33
     obtain ⟨y119, Ny119⟩ := zA ((x8_2.set ((ji28) : Int).toNat (Int.tmod (wrap64 ((rd x8_2 (ji28)) + (wrap64 ((wrap64 (a0 - (Int.tmod (wrap64 ((rd x8_1 (ji17)) * t108)) a0))) * (rd l2 x14_2))))) a0)) : List Int); rw [← Ny119.out] at H
     have H' := zm H
     clear H
     try go_wp2
     replace HO_8 := zm (Kd.R_drew HO_8.out)
     replace HO_10 := zm (Kd.R_drew HO_10.out)
     replace HB := zm (below_drew1 HB.out)
     obtain ⟨p117, q117, ad117, e117, hx117_0⟩ := zI ((Kd.R_reads' HO_8.out).2.2) ((ji28)) zD zD
     obtain rfl : ad115 = ad117 := (by injection e117)
     obtain ⟨p118, q118, ad118, e118, hx118_0⟩ := zI (HR2.out) (x14_2) zD zD
     have hw118_0 := hx118_0
     obtain rfl : ad107 = ad118 := (by injection e118)
     replace hx118_0 := (HB.out.cell (World.block_lt_of_cell? w _ hx118_0)).trans hx118_0
     have p34 : 0 ≤ ((ji28) : Int) := zD
     have q34 : ((ji28) : Int) < ((x8_2.length : Int) : Int) := zD
     obtain ⟨go34, co34, eo34, gb34, gl34, cl34, HG34⟩ := Kd.R_form HO_8.out (by omega)
     (first | cases eo34 | (injection eo34 with ea_ en_ ec_; (first | subst ea_ | (injection ea_ with ea_; subst ea_)); subst ec_; clear en_))
     have GB34 := zm gb34
     have GG34 := zm HG34
     clear gb34 gl34 HG34
     (first | simp only [add_plain] at hx115_0 | skip)
     (first | simp only [add_plain] at hx117_0 | skip)
     obtain ⟨hx34_0, hf34_0⟩ := Kd.R_celln 0 HO_8.out ((ji28) : Int) p34 q34
     replace p34 := eq_true p34
     replace q34 := eq_true q34
     have HP36 := Kd.R_putn HO_8.out ((ji28) : Int) (Int.tmod (wrap64 ((rd x8_2 (ji28)) + (wrap64 ((wrap64 (a0 - (Int.tmod (wrap64 ((rd x8_1 (ji17)) * t108)) a0))) * (rd l2 x14_2))))) a0)
     rw [← Ny119.out] at HP36
     have HQ36 := zm HP36
     clear HP36
     refine start_ (n := 23) (S := fun w' => w'.cell? ⟨go34, ((ji28)).toNat, none⟩ = some (.int .i64 (rd x8_2 (ji28))) ∧ w'.cell? (ad107.add (x14_2).toNat) = some (.int .i64 (rd l2 x14_2))) (ds := [22]) #[false, false, false, false, false, false, false, false, false, false, false, false, false, false, false, false, false, false, false, false, false, false, false] (by kernel_rfl) rfl rfl ⟨hx117_0, ((HB.out.cell (World.block_lt_of_cell? w _ hw118_0)).trans hw118_0)⟩ (fun hHeld => ?_); refine with_tabW r9DivMod.tab13 r9DivMod.bits13 (fun HT_ HW_ => ?_)
     generalize wr.drew = w35 at HO_8 HO_10 HB GG34 HQ36 hf34_0 hx117_0 hx118_0 hx34_0 hHeld ⊢
     refine zP 0 58 ?_; refine zP 1 59 ?_; refine zP 2 60 ?_; refine zP 3 61 ?_; refine zP 4 62 ?_; refine zP 5 63 ?_; refine zP 6 64 ?_; refine zP 7 65 ?_; refine zP 8 66 ?_; refine zP 10 68 ?_; refine zP 11 69 ?_; refine zP 12 70 ?_; refine zP 13 71 ?_; refine zP 14 72 ?_; refine zP 15 73 ?_; refine zP 19 77 ?_
     refine take_ (i := 9) (N := some 67) (v := ?_) (a' := ?_) #[true, true, true, true, true, true, true, true, true, true, true, true, true, true, true, true, false, false, false, true, false, false, false] rfl rfl (take_ofW HT_.out HW_.out (by kernel_rfl)) (fun _ _ _ h => h) (Or.inl ⟨by rfl, ?_⟩) hHeld ?_ ?_
     rotate_left
     ·rintro w' ⟨s0, s1⟩
      go_simp
      with_reducible rfl
     rotate_left
     ·simp only [Act.put, List.setIfInBounds_toArray, List.set_cons_zero, List.set_cons_succ, i64_w, i32_w]
      rfl
     refine take_ (i := 16) (N := some 74) (v := ?_) (a' := ?_) #[true, true, true, true, true, true, true, true, true, true, true, true, true, true, true, true, true, false, false, true, false, false, false] rfl rfl (take_ofW HT_.out HW_.out (by kernel_rfl)) (fun _ _ _ h => h) (Or.inl ⟨by rfl, ?_⟩) hHeld ?_ ?_
     rotate_left
     ·rintro w' ⟨s0, s1⟩
      go_simp
      with_reducible rfl
     rotate_left
     ·simp only [Act.put, List.setIfInBounds_toArray, List.set_cons_zero, List.set_cons_succ, i64_w, i32_w]
      rfl
     refine zP 17 75 ?_; refine zP 18 76 ?_; refine zP 20 78 ?_; refine zP 21 79 ?_
     refine last_ (i := 22) (N := none) #[true, true, true, true, true, true, true, true, true, true, true, true, true, true, true, true, true, true, true, true, true, true, true] rfl rfl (one_of HT_.out (by kernel_rfl)) (by decide) (fun K hK => ?_)
     refine skip_ (w1 := ?_) (by rfl) rfl ?_ ?_
     rotate_left
     ·go_simp
      rfl
     refine hK.out _ _ ?_
     clear hK K
     refine done_ (done_of HT_.out (by kernel_rfl)) ?_
     try go_wp2
     (try simp only [← hl8_2, ← hl10_2])
     (first | go_roundg k2 | (simp only [show ∀ g_ : Nat, ({ block := g_, off := (ji5).toNat } : Addr) = ({ block := g_, off := 0 } : Addr).add (ji5).toNat from fun g_ => by simp [Addr.add], show ∀ g_ : Nat, ({ block := g_, off := (ji8).toNat } : Addr) = ({ block := g_, off := 0 } : Addr).add (ji8).toNat from fun g_ => by simp [Addr.add], show ∀ g_ : Nat, ({ block := g_, off := (ji17).toNat } : Addr) = ({ block := g_, off := 0 } : Addr).add (ji17).toNat from fun g_ => by simp [Addr.add]]; go_roundg k2))
     case measure => have := HK1.out; have := HK2.out; omega
     case rel => exact ⟨(y119), (wrap64 (x14_2 + 1)), zX, H', ⟨by have := HK1.out; have := HK2.out; omega⟩, ⟨by (try simp only [hl10_1]); (try simp only [hl8_2]); (try simp only [hl10_2]); (with_reducible repeat (first | apply Kd.R_alloc | apply Kd.R_drewN | apply Kd.R_drew)); exact HQ36.out⟩, ⟨by (try simp only [hl10_1]); (try simp only [hl8_2]); (try simp only [hl10_2]); (with_reducible repeat (first | apply Kd.R_alloc | apply Kd.R_drewN | apply Kd.R_drew)); exact Kd.R_mono (Kd.R_far (p := ⟨go34, ((ji28) : Int).toNat, none⟩) (Kd.R_mono HO_10.out (fun k_ hk => (⟨hk, fun e_ => hk.2 (by rw [e_]; rfl)⟩ : _ ∧ k_ ≠ go34))) (fun _ hk => hk.2) (.int .i64 (Int.tmod (wrap64 ((rd x8_2 (ji28)) + (wrap64 ((wrap64 (a0 - (Int.tmod (wrap64 ((rd x8_1 (ji17)) * t108)) a0))) * (rd l2 x14_2))))) a0))) (fun _ hk => ⟨hk.1.1, hk.1.2⟩)⟩, ⟨zT⟩⟩
def r9Mod.f (k : Nat) (a0 : Int) (l1 : List Int) (l2 : List Int) : Option (List Int) := (r9DivMod.f k a0 l1 l2).bind fun bt101 => (some bt101.2)
theorem r9Mod.mono : ∀ a0 a1 a2 k, LeO (r9Mod.f k a0 a1 a2) (r9Mod.f (k + 1) a0 a1 a2) := by
 intro a0 a1 a2 k
 unfold r9Mod.f
 with_reducible repeat' first | exact r9DivMod.mono _ _ _ _ | exact LeO.refl _ | exact LeO.none _ | refine LeO.ite ?_ ?_ | refine LeO.bind ?_ (fun _ => ?_)
theorem r9Mod.calls (k : Nat) (a0 : Int) (A1 : Option Addr) (c1 : Nat) (l1 : List Int) (A2 : Option Addr) (c2 : Nat) (l2 : List Int) (r : List Int) (w : World) (hr1 : Kd.C (Kd.int .i64) w A1 l1.length l1) (hc1 : l1.length ≤ c1) (hr2 : Kd.C (Kd.int .i64) w A2 l2.length l2) (hc2 : l2.length ≤ c2) (h : r9Mod.f k a0 l1 l2 = some r) :
  Calls Try.prog 86 #[.int .i64 a0, .slice A1 l1.length c1, .slice A2 l2.length c2] w fun e w' => ∃ v0_ : Value, e = .returned (v0_) ∧ Kd.V (Kd.int .i64) 3 w' w.heap.size (fun k_ => (w.heap.size ≤ k_)) v0_ r ∧ Below w.heap.size w w' := by
 have HR1 := zm hr1
 have HC1 := zm hc1
 clear hr1 hc1
 have HR2 := zm hr2
 have HC2 := zm hc2
 clear hr2 hc2
 have HB := zm (Below.refl w.heap.size w)
 have H := h; clear h; unfold r9Mod.f at H
 obtain ⟨⟨t101, t104⟩, A4, H⟩ := zO H; try dsimp only at H
 obtain rfl := Option.some.inj H
 go_enter Try.func86, Try.ntmps86
 go_wp2_with (first | ((with_reducible refine gate_callee (f := 108) rfl ?_); refine zG (some 13) Try.func108 #[.int .i64 a0, .slice A1 l1.length c1, .slice A2 l2.length c2] ?_; (with_reducible refine (r9DivMod.calls k a0 _ _ l1 _ _ l2 t101 t104 _ (zC (HR1.out)) HC1.out (zC (HR2.out)) HC2.out A4.out).mono ?_); rintro e w5 ⟨v102, v105, rfl, ho0, ho1, hb⟩; refine ⟨_, rfl, ?_⟩; have HO103 := zWV (fun k_ => (w.heap.size ≤ k_)) ho0 HB (fun k_ hk_ => (Nat.le_trans (zS HB) hk_)); have HO106 := zm (Kd.V_lower (Kd.V_mono (ok' := fun k_ => (w.heap.size ≤ k_)) ho1 (fun k_ hk_ => (Nat.le_trans (zS HB) hk_))) (zS HB)); replace HB := zBb HB hb; (try clear ho1)))
 go_ret
 exact ⟨_, zQ, zV HO106.out, zT⟩
mutual
def r9Mul.j0 : Nat → Int → List Int → List Int → Bool → Option (List Int)
 | 0, _, _, _, _ => none
 | k + 1, x0, x1, x2, x17 => if x17 = true then (some ([] : List Int)) else (if 0 ≤ (wrap64 ((wrap64 ((x1.length : Int) + (x2.length : Int))) - 1)) then (if (wrap64 ((wrap64 ((x1.length : Int) + (x2.length : Int))) - 1) : Int).toNat ≤ 35184372088832 then (r9Mul.l0 k x0 x1 x2 (List.replicate (wrap64 ((wrap64 ((x1.length : Int) + (x2.length : Int))) - 1) : Int).toNat 0) 0) else (none)) else (none))
def r9Mul.l0 : Nat → Int → List Int → List Int → List Int → Int → Option (List Int)
 | 0, _, _, _, _, _ => none
 | k + 1, x0, x1, x2, x7, x8 => if x8 < (x1.length : Int) then (r9Mul.l1 k x0 x1 x2 x7 x8 0) else ((r9Trim.f k x7).bind fun t104 => (some t104))
def r9Mul.l1 : Nat → Int → List Int → List Int → List Int → Int → Int → Option (List Int)
 | 0, _, _, _, _, _, _ => none
 | k + 1, x0, x1, x2, x7, x8, x9 => if x9 < (x2.length : Int) then (if 0 ≤ (wrap64 (x8 + x9)) then (if (wrap64 (x8 + x9)) < (x7.length : Int) then (if 0 ≤ x8 then (if x8 < (x1.length : Int) then (if 0 ≤ x9 then (if x0 = 0 then (none) else (r9Mul.l1 k x0 x1 x2 (x7.set ((wrap64 (x8 + x9)) : Int).toNat (Int.tmod (wrap64 ((rd x7 (wrap64 (x8 + x9))) + (wrap64 ((rd x1 x8) * (rd x2 x9))))) x0)) x8 (wrap64 (x9 + 1)))) else (none)) else (none)) else (none)) else (none)) else (none)) else (r9Mul.l0 k x0 x1 x2 x7 (wrap64 (x8 + 1)))
end
def r9Mul.f (k : Nat) (a0 : Int) (l1 : List Int) (l2 : List Int) : Option (List Int) := if (l1.length : Int) = 0 then (r9Mul.j0 k a0 l1 l2 true) else (r9Mul.j0 k a0 l1 l2 ((l2.length : Int) == 0))
theorem r9Mul.mono_l : ∀ k, (∀ y0 y1 y2 y3, LeO (r9Mul.j0 k y0 y1 y2 y3) (r9Mul.j0 (k + 1) y0 y1 y2 y3)) ∧ (∀ y0 y1 y2 y3 y4, LeO (r9Mul.l0 k y0 y1 y2 y3 y4) (r9Mul.l0 (k + 1) y0 y1 y2 y3 y4)) ∧ (∀ y0 y1 y2 y3 y4 y5, LeO (r9Mul.l1 k y0 y1 y2 y3 y4 y5) (r9Mul.l1 (k + 1) y0 y1 y2 y3 y4 y5))
 | 0 => ⟨fun _ _ _ _ r h => by simp [r9Mul.j0] at h, fun _ _ _ _ _ r h => by simp [r9Mul.l0] at h, fun _ _ _ _ _ _ r h => by simp [r9Mul.l1] at h⟩
 | k + 1 => by
  obtain ⟨ih0, ih1, ih2⟩ := r9Mul.mono_l k
  refine ⟨?_, ?_, ?_⟩
  ·intro y0 y1 y2 y3
   unfold r9Mul.j0
   with_reducible repeat' first | exact ih0 _ _ _ _ | exact ih1 _ _ _ _ _ | exact ih2 _ _ _ _ _ _ | exact r9Trim.mono _ _ | exact LeO.refl _ | exact LeO.none _ | refine LeO.ite ?_ ?_ | refine LeO.bind ?_ (fun _ => ?_)
  ·intro y0 y1 y2 y3 y4
   unfold r9Mul.l0
   with_reducible repeat' first | exact ih0 _ _ _ _ | exact ih1 _ _ _ _ _ | exact ih2 _ _ _ _ _ _ | exact r9Trim.mono _ _ | exact LeO.refl _ | exact LeO.none _ | refine LeO.ite ?_ ?_ | refine LeO.bind ?_ (fun _ => ?_)
  intro y0 y1 y2 y3 y4 y5
  unfold r9Mul.l1
  with_reducible repeat' first | exact ih0 _ _ _ _ | exact ih1 _ _ _ _ _ | exact ih2 _ _ _ _ _ _ | exact r9Trim.mono _ _ | exact LeO.refl _ | exact LeO.none _ | refine LeO.ite ?_ ?_ | refine LeO.bind ?_ (fun _ => ?_)
theorem r9Mul.mono : ∀ a0 a1 a2 k, LeO (r9Mul.f k a0 a1 a2) (r9Mul.f (k + 1) a0 a1 a2) := by
 intro a0 a1 a2 k
 obtain ⟨ih0, ih1, ih2⟩ := r9Mul.mono_l k
 unfold r9Mul.f
 with_reducible repeat' first | exact ih0 _ _ _ _ | exact ih1 _ _ _ _ _ | exact ih2 _ _ _ _ _ _ | exact r9Trim.mono _ _ | exact LeO.refl _ | exact LeO.none _ | refine LeO.ite ?_ ?_ | refine LeO.bind ?_ (fun _ => ?_)
def r9Mul.T10 : Bool × List (List Nat × List Nat) := (true, [([], []), ([], []), ([], []), ([1, 2], [1, 2]), ([], []), ([], []), ([], []), ([5, 6], [5, 6]), ([4, 7], [4, 7]), ([8], [8]), ([], []), ([], []), ([10, 11], [10, 11]), ([12], [12]), ([], []), ([], []), ([14, 15], [14, 15]), ([16], [16]), ([13, 17], [13, 17]), ([9, 18], [9, 18]), ([], []), ([19, 20], [19, 20]), ([0, 3, 0, 1, 2, 3, 4, 5, 6, 7, 8, 9, 10, 11, 12, 13, 14, 15, 16, 17, 18, 19, 20, 21], [0, 3]), ([22, 21, 0, 1, 2, 3, 4, 5, 6, 7, 8, 9, 10, 11, 12, 13, 14, 15, 16, 17, 18, 19, 20, 21], [21, 22])])
def r9Mul.B10 : List Nat := [0, 0, 0, 6, 0, 0, 0, 96, 240, 496, 0, 0, 3072, 7168, 0, 0, 49152, 114688, 261120, 524272, 0, 2097136, 4194303, 8388607]
theorem r9Mul.tab10 : rtab .any (opsOf Try.f97 10) = r9Mul.T10 := by kernel_rfl
theorem r9Mul.bits10 : waitsOk r9Mul.T10.2 r9Mul.B10 = true := by kernel_rfl
theorem r9Mul.calls (k : Nat) (a0 : Int) (A1 : Option Addr) (c1 : Nat) (l1 : List Int) (A2 : Option Addr) (c2 : Nat) (l2 : List Int) (r : List Int) (w : World) (hr1 : Kd.C (Kd.int .i64) w A1 l1.length l1) (hc1 : l1.length ≤ c1) (hr2 : Kd.C (Kd.int .i64) w A2 l2.length l2) (hc2 : l2.length ≤ c2) (h : r9Mul.f k a0 l1 l2 = some r) :
  Calls Try.prog 97 #[.int .i64 a0, .slice A1 l1.length c1, .slice A2 l2.length c2] w fun e w' => ∃ v0_ : Value, e = .returned (v0_) ∧ Kd.V (Kd.int .i64) 3 w' w.heap.size (fun k_ => (w.heap.size ≤ k_)) v0_ r ∧ Below w.heap.size w w' := by
 have HR1 := zm hr1
 have HC1 := zm hc1
 clear hr1 hc1
 have HR2 := zm hr2
 have HC2 := zm hc2
 clear hr2 hc2
 have HB := zm (Below.refl w.heap.size w)
 have H := h; clear h; unfold r9Mul.f at H
 have HC4 := zm H
 clear H
 go_enter Try.func97, Try.ntmps97
 go_upto_region 1 with (fail)
 go_cut [17] (fun v17 wc => ∃ (kq : Nat) (x17_3 : Bool), v17 = .bool x17_3 ∧ Aside0 (r9Mul.j0 kq a0 l1 l2 x17_3 = some r) ∧ Aside0 (kq ≤ k) ∧ Aside0 (Below w.heap.size w wc))
 case first =>
  have H := HC4.out
  clear HC4
  by_cases c5 : (l1.length : Int) = 0
  ·rw [if_pos c5] at H
   obtain ⟨c5b0, c5b1⟩ := zE c5; clear c5
   (first | rw [c5b0] | (simp only [i64_w, i32_w]; rw [c5b0]) | skip)
   have H' := zm H
   clear H
   go_wp2
   go_meet
   case rel => exact ⟨_, (true), zX, H', ⟨by first | omega | exact Nat.le_refl _⟩, ⟨zT⟩⟩
  rw [if_neg c5] at H
  obtain ⟨c5b0, c5b1⟩ := zU c5
  have c5b2 : ¬ (l1 = []) := fun h_ => c5 (by rw [h_]; rfl)
  (first | rw [c5b0] | (simp only [i64_w, i32_w]; rw [c5b0]) | skip)
  have H' := zm H
  clear H
  go_wp2
  go_meet
  case rel => exact ⟨_, (((l2.length : Int) == 0)), zX, H', ⟨by first | omega | exact Nat.le_refl _⟩, ⟨zT⟩⟩
 case rest =>
  clear HC4
  obtain ⟨kq, x17_3, rfl, HA, HJ3, HB⟩ := hcut
  cases kq with
  | zero => exact absurd HA.out (by simp [r9Mul.j0])
  | succ kj3 =>
   have H := HA.out
   clear HA
   simp only [r9Mul.j0] at H
   by_cases c6 : x17_3 = true
   ·subst c6
    rw [if_pos rfl] at H
    obtain rfl := Option.some.inj H
    go_wp2
    go_ret
    exact ⟨_, zQ, zL, zT⟩
   replace c6 := Bool.eq_false_iff.mpr c6
   subst c6
   rw [if_neg Bool.false_ne_true] at H
   obtain ⟨ji7, hji7⟩ : ∃ j_ : Int, (wrap64 ((wrap64 ((l1.length : Int) + (l2.length : Int))) - 1)) = j_ := ⟨_, rfl⟩
   first | rw [hji7] at H | simp only [hji7] at H
   have hji7w : (IntKind.i64.wrap ((wrap64 ((l1.length : Int) + (l2.length : Int))) - 1)) = ji7 := (i64_w _).trans hji7
   by_cases c8 : 0 ≤ (ji7)
   rotate_left
   ·rw [if_neg c8] at H
    exact absurd H (by simp)
   rw [if_pos c8] at H
   have c8b0 := eq_true c8; have c8b1 := decide_eq_true c8; clear c8
   by_cases c9 : (ji7 : Int).toNat ≤ 35184372088832
   rotate_left
   ·rw [if_neg c9] at H
    exact absurd H (by simp)
   rw [if_pos c9] at H
   have c9b0 := eq_true c9; have c9b1 := decide_eq_true c9; clear c9
   obtain ⟨y101, Ny101⟩ := zA ((List.replicate (ji7 : Int).toNat 0) : List Int); rw [← Ny101.out] at H
   have H' := zm H
   clear H
   go_wp2_with (first | ((with_reducible refine gate_dst (N := 24) rfl ?_); (try (refine gate_guard (by rfl) ?_; dsimp only)); refine Kd.R_make (Kd.int .i64) _ 3 rfl (N := 24) rfl 25 _ _ rfl ji7 rfl rfl Try.underlying25 (.int .i64 0) 8 info3 rfl (by decide) (by omega) 0 (ok := fun _ => True) (okp := fun _ => True) rfl (fun _ hk => hk) trivial zD (Nat.le_trans (Nat.mul_le_mul_right _ (zD : ji7.toNat ≤ 35184372088832)) (by omega)) (Below.refl _ _) (Nat.le_refl _) ?_; intro v102 w10 ho11 hb hg_ hnew_; clear hg_ hnew_; (first | rw [← Ny101.out] at ho11 | (simp only [Int.reduceToNat] at ho11; rw [← Ny101.out] at ho11)); have HO103 := zm (Kd.R_lower (Kd.R_newM (M := fun k_ => (w.heap.size ≤ k_)) ho11 (zS HB) (fun k_ h_ => h_)) (zS HB)); replace HB := zBb HB hb; clear hb ho11))
   go_loopg [8] kj3 (fun kq v8 w' => ∃ (x7_2 : List Int) (x8_2 : Int), v8 = .int .i64 x8_2 ∧ Aside0 (r9Mul.l0 kq a0 l1 l2 x7_2 x8_2 = some r) ∧ Aside0 (kq ≤ kj3) ∧ Aside0 (Kd.R (Kd.int .i64) 3 w' w.heap.size (fun k_ => (w.heap.size ≤ k_)) v102 x7_2) ∧ Aside0 (Below w.heap.size w w'))
   case atStart => exact ⟨(y101), (0), zX, H', ⟨Nat.le_refl _⟩, ⟨zR (Kd.R_mono HO103.out (fun _ hk => hk.1))⟩, ⟨zT⟩⟩
   case round =>
    clear H'
    obtain ⟨x7_2, x8_2, rfl, HA, HK2, HO_7, HB⟩ := hrel
    cases gk with
    | zero => exact absurd HA.out (by simp [r9Mul.l0])
    | succ k2 =>
     have H := HA.out
     clear HA
     simp only [r9Mul.l0] at H
     by_cases c12 : x8_2 < (l1.length : Int)
     rotate_left
     ·rw [if_neg c12] at H
      have c12b0 := decide_eq_false c12; clear c12
      obtain ⟨t104, A25, H⟩ := zO H
      obtain rfl := Option.some.inj H
      obtain ⟨Ao26, co26, eo26⟩ := Kd.R_slice HO_7.out
      subst eo26
      go_wp2_with (first | ((with_reducible refine gate_callee (f := 41) rfl ?_); refine zG (some 61) Try.func41 #[.slice Ao26 x7_2.length co26] ?_; (with_reducible refine (r9Trim.calls k2 (fun k_ => some k_ = (.slice Ao26 x7_2.length co26 : Value).ownBlock) _ _ x7_2 t104 _ (Kd.R_V (Kd.R_tight rfl (HO_7.out))) A25.out).mono ?_); rintro e w27 ⟨v105, rfl, ho0, hb⟩; refine ⟨_, rfl, ?_⟩; have HO106 := zWV (fun k_ => (w.heap.size ≤ k_)) ho0 HB (fun k_ hk_ => Or.elim hk_ (fun hs_ => ((HO_7.out).1 k_ hs_.symm)) (fun hn_ => (Nat.le_trans (zS HB) hn_))); replace HO_7 := zRb HO_7 hb; replace HB := zBb HB hb))
      go_ret
      exact ⟨_, by first | rfl | (simp [errW_none, errW_some] <;> rfl) | (simp only [← hji7]; first | rfl | (simp [errW_none, errW_some] <;> rfl)) | (simp [*, errW_none, errW_some] <;> rfl), zV HO106.out, zT⟩
     rw [if_pos c12] at H
     have c12b0 := decide_eq_true c12; clear c12
     have H' := zm H
     clear H
     go_wp2
     go_loopg [9] k2 (fun kq v9 w' => ∃ (x7_3 : List Int) (x9_3 : Int), v9 = .int .i64 x9_3 ∧ Aside0 (r9Mul.l1 kq a0 l1 l2 x7_3 x8_2 x9_3 = some r) ∧ Aside0 (kq ≤ k2) ∧ Aside0 (Kd.R (Kd.int .i64) 3 w' w.heap.size (fun k_ => (w.heap.size ≤ k_)) v102 x7_3) ∧ Aside0 (Below w.heap.size w w'))
     case atStart => exact ⟨(x7_2), (0), zX, H', ⟨Nat.le_refl _⟩, ⟨zR HO_7.out⟩, ⟨zT⟩⟩
     case round =>
      clear H'
      obtain ⟨x7_3, x9_3, rfl, HA, HK3, HO_7, HB⟩ := hrel
      cases gk with
      | zero => exact absurd HA.out (by simp [r9Mul.l1])
      | succ k3 =>
       have H := HA.out
       clear HA
       simp only [r9Mul.l1] at H
       by_cases c13 : x9_3 < (l2.length : Int)
       rotate_left
       ·rw [if_neg c13] at H
        have c13b0 := decide_eq_false c13; clear c13
        have H' := zm H
        clear H
        go_wp2
        (first | go_roundg k3 | (simp only [show ∀ g_ : Nat, ({ block := g_, off := (ji7).toNat } : Addr) = ({ block := g_, off := 0 } : Addr).add (ji7).toNat from fun g_ => by simp [Addr.add]]; go_roundg k3))
        case measure => have := HJ3.out; have := HK2.out; have := HK3.out; omega
        case rel => exact ⟨(x7_3), (wrap64 (x8_2 + 1)), zX, H', ⟨by have := HJ3.out; have := HK2.out; have := HK3.out; omega⟩, ⟨zR HO_7.out⟩, ⟨zT⟩⟩
       rw [if_pos c13] at H
       have c13b0 := decide_eq_true c13; clear c13
       obtain ⟨ji14, hji14⟩ : ∃ j_ : Int, (wrap64 (x8_2 + x9_3)) = j_ := ⟨_, rfl⟩
       first | rw [hji14] at H | simp only [hji14] at H
       have hji14w : (IntKind.i64.wrap (x8_2 + x9_3)) = ji14 := (i64_w _).trans hji14
       by_cases c15 : 0 ≤ (ji14)
       rotate_left
       ·rw [if_neg c15] at H
        exact absurd H (by simp)
       rw [if_pos c15] at H
       have c15b0 := decide_eq_true c15; clear c15
       by_cases c16 : (ji14) < (x7_3.length : Int)
       rotate_left
       ·rw [if_neg c16] at H
        exact absurd H (by simp)
       rw [if_pos c16] at H
       have c16b0 := decide_eq_true c16; clear c16
       by_cases c17 : 0 ≤ x8_2
       rotate_left
       ·rw [if_neg c17] at H
        exact absurd H (by simp)
       rw [if_pos c17] at H
       have c17b0 := decide_eq_true c17; clear c17
       by_cases c18 : x8_2 < (l1.length : Int)
       rotate_left
       ·rw [if_neg c18] at H
        exact absurd H (by simp)
       rw [if_pos c18] at H
       have c18b0 := decide_eq_true c18; clear c18
       by_cases c19 : 0 ≤ x9_3
       rotate_left
       ·rw [if_neg c19] at H
        exact absurd H (by simp)
       rw [if_pos c19] at H
       have c19b0 := decide_eq_true c19; clear c19
       by_cases c20 : a0 = 0
       ·rw [if_pos c20] at H
        exact absurd H (by simp)
       rw [if_neg c20] at H
       obtain ⟨c20b0, c20b1⟩ := zU c20
       obtain ⟨y110, Ny110⟩ := zA ((x7_3.set ((ji14) : Int).toNat (Int.tmod (wrap64 ((rd x7_3 (ji14)) + (wrap64 ((rd l1 x8_2) * (rd l2 x9_3))))) a0)) : List Int); rw [← Ny110.out] at H
       have H' := zm H
       clear H
       try go_wp2
       replace HO_7 := zm (Kd.R_drew HO_7.out)
       replace HB := zm (below_drew1 HB.out)
       obtain ⟨Ao23, co23, eo23⟩ := Kd.R_slice HO_7.out
       (first | subst eo23 | (injection eo23 with f1_ f2_ f3_; have f4_ := f1_.symm; have f5_ := f3_.symm; clear f1_ f2_ f3_; subst f4_; subst f5_))
       obtain ⟨p107, q107, ad107, e107, hx107_0⟩ := zI ((Kd.R_reads' HO_7.out).2.2) ((ji14)) zD zD
       cases e107
       obtain ⟨p108, q108, ad108, e108, hx108_0⟩ := zI (HR1.out) (x8_2) zD zD
       have hw108_0 := hx108_0
       cases e108
       replace hx108_0 := (HB.out.cell (World.block_lt_of_cell? w _ hx108_0)).trans hx108_0
       obtain ⟨p109, q109, ad109, e109, hx109_0⟩ := zI (HR2.out) (x9_3) zD zD
       have hw109_0 := hx109_0
       cases e109
       replace hx109_0 := (HB.out.cell (World.block_lt_of_cell? w _ hx109_0)).trans hx109_0
       have p21 : 0 ≤ ((ji14) : Int) := zD
       have q21 : ((ji14) : Int) < ((x7_3.length : Int) : Int) := zD
       obtain ⟨go21, co21, eo21, gb21, gl21, cl21, HG21⟩ := Kd.R_form HO_7.out (by omega)
       (first | cases eo21 | (injection eo21 with ea_ en_ ec_; (first | subst ea_ | (injection ea_ with ea_; subst ea_)); subst ec_; clear en_))
       have GB21 := zm gb21
       have GG21 := zm HG21
       clear gb21 gl21 HG21
       (first | simp only [add_plain] at hx107_0 | skip)
       obtain ⟨hx21_0, hf21_0⟩ := Kd.R_celln 0 HO_7.out ((ji14) : Int) p21 q21
       replace p21 := eq_true p21
       replace q21 := eq_true q21
       have HP24 := Kd.R_putn HO_7.out ((ji14) : Int) (Int.tmod (wrap64 ((rd x7_3 (ji14)) + (wrap64 ((rd l1 x8_2) * (rd l2 x9_3))))) a0)
       rw [← Ny110.out] at HP24
       have HQ24 := zm HP24
       clear HP24
       refine start_ (n := 24) (S := fun w' => w'.cell? ⟨go21, ((ji14)).toNat, none⟩ = some (.int .i64 (rd x7_3 (ji14))) ∧ w'.cell? (ad108.add (x8_2).toNat) = some (.int .i64 (rd l1 x8_2)) ∧ w'.cell? (ad109.add (x9_3).toNat) = some (.int .i64 (rd l2 x9_3))) (ds := [23]) #[false, false, false, false, false, false, false, false, false, false, false, false, false, false, false, false, false, false, false, false, false, false, false, false] (by kernel_rfl) rfl rfl ⟨hx107_0, ((HB.out.cell (World.block_lt_of_cell? w _ hw108_0)).trans hw108_0), ((HB.out.cell (World.block_lt_of_cell? w _ hw109_0)).trans hw109_0)⟩ (fun hHeld => ?_); refine with_tabW r9Mul.tab10 r9Mul.bits10 (fun HT_ HW_ => ?_)
       generalize wr.drew = w22 at HO_7 HB GG21 HQ24 hf21_0 hx107_0 hx108_0 hx109_0 hx21_0 hHeld ⊢
       refine zP 0 37 ?_; refine zP 1 38 ?_; refine zP 2 39 ?_; refine zP 3 40 ?_; refine zP 4 41 ?_; refine zP 5 42 ?_; refine zP 6 43 ?_; refine zP 7 44 ?_; refine zP 8 45 ?_; refine zP 10 47 ?_; refine zP 11 48 ?_; refine zP 12 49 ?_; refine zP 14 51 ?_; refine zP 15 52 ?_; refine zP 16 53 ?_; refine zP 20 57 ?_
       refine take_ (i := 9) (N := some 46) (v := ?_) (a' := ?_) #[true, true, true, true, true, true, true, true, true, true, true, true, true, false, true, true, true, false, false, false, true, false, false, false] rfl rfl (take_ofW HT_.out HW_.out (by kernel_rfl)) (fun _ _ _ h => h) (Or.inl ⟨by rfl, ?_⟩) hHeld ?_ ?_
       rotate_left
       ·rintro w' ⟨s0, s1, s2⟩
        go_simp
        with_reducible rfl
       rotate_left
       ·simp only [Act.put, List.setIfInBounds_toArray, List.set_cons_zero, List.set_cons_succ, i64_w, i32_w]
        rfl
       refine take_ (i := 13) (N := some 50) (v := ?_) (a' := ?_) #[true, true, true, true, true, true, true, true, true, true, true, true, true, true, true, true, true, false, false, false, true, false, false, false] rfl rfl (take_ofW HT_.out HW_.out (by kernel_rfl)) (fun _ _ _ h => h) (Or.inl ⟨by rfl, ?_⟩) hHeld ?_ ?_
       rotate_left
       ·rintro w' ⟨s0, s1, s2⟩
        go_simp
        with_reducible rfl
       rotate_left
       ·simp only [Act.put, List.setIfInBounds_toArray, List.set_cons_zero, List.set_cons_succ, i64_w, i32_w]
        rfl
       refine take_ (i := 17) (N := some 54) (v := ?_) (a' := ?_) #[true, true, true, true, true, true, true, true, true, true, true, true, true, true, true, true, true, true, false, false, true, false, false, false] rfl rfl (take_ofW HT_.out HW_.out (by kernel_rfl)) (fun _ _ _ h => h) (Or.inl ⟨by rfl, ?_⟩) hHeld ?_ ?_
       rotate_left
       ·rintro w' ⟨s0, s1, s2⟩
        go_simp
        with_reducible rfl
       rotate_left
       ·simp only [Act.put, List.setIfInBounds_toArray, List.set_cons_zero, List.set_cons_succ, i64_w, i32_w]
        rfl
       refine zP 18 55 ?_; refine zP 19 56 ?_; refine zP 21 58 ?_; refine zP 22 59 ?_
       refine last_ (i := 23) (N := none) #[true, true, true, true, true, true, true, true, true, true, true, true, true, true, true, true, true, true, true, true, true, true, true, true] rfl rfl (one_of HT_.out (by kernel_rfl)) (by decide) (fun K hK => ?_)
       refine skip_ (w1 := ?_) (by rfl) rfl ?_ ?_
       rotate_left
       ·go_simp
        rfl
       refine hK.out _ _ ?_
       clear hK K
       refine done_ (done_of HT_.out (by kernel_rfl)) ?_
       try go_wp2
       (first | go_roundg k3 | (simp only [show ∀ g_ : Nat, ({ block := g_, off := (ji7).toNat } : Addr) = ({ block := g_, off := 0 } : Addr).add (ji7).toNat from fun g_ => by simp [Addr.add]]; go_roundg k3))
       case measure => have := HJ3.out; have := HK2.out; have := HK3.out; omega
       case rel => exact ⟨(y110), (wrap64 (x9_3 + 1)), zX, H', ⟨by have := HJ3.out; have := HK2.out; have := HK3.out; omega⟩, ⟨zR HQ24.out⟩, ⟨zT⟩⟩
def r9MulMod.f (k : Nat) (a0 : Int) (l1 : List Int) (l2 : List Int) (l3 : List Int) : Option (List Int) := (r9Mul.f k a0 l1 l2).bind fun t101 => ((r9Mod.f k a0 t101 l3).bind fun t104 => (some t104))
theorem r9MulMod.mono : ∀ a0 a1 a2 a3 k, LeO (r9MulMod.f k a0 a1 a2 a3) (r9MulMod.f (k + 1) a0 a1 a2 a3) := by
 intro a0 a1 a2 a3 k
 unfold r9MulMod.f
 with_reducible repeat' first | exact r9Mod.mono _ _ _ _ | exact r9Mul.mono _ _ _ _ | exact LeO.refl _ | exact LeO.none _ | refine LeO.ite ?_ ?_ | refine LeO.bind ?_ (fun _ => ?_)
theorem r9MulMod.calls (k : Nat) (a0 : Int) (A1 : Option Addr) (c1 : Nat) (l1 : List Int) (A2 : Option Addr) (c2 : Nat) (l2 : List Int) (A3 : Option Addr) (c3 : Nat) (l3 : List Int) (r : List Int) (w : World) (hr1 : Kd.C (Kd.int .i64) w A1 l1.length l1) (hc1 : l1.length ≤ c1) (hr2 : Kd.C (Kd.int .i64) w A2 l2.length l2) (hc2 : l2.length ≤ c2) (hr3 : Kd.C (Kd.int .i64) w A3 l3.length l3) (hc3 : l3.length ≤ c3) (h : r9MulMod.f k a0 l1 l2 l3 = some r) :
  Calls Try.prog 66 #[.int .i64 a0, .slice A1 l1.length c1, .slice A2 l2.length c2, .slice A3 l3.length c3] w fun e w' => ∃ v0_ : Value, e = .returned (v0_) ∧ Kd.V (Kd.int .i64) 3 w' w.heap.size (fun k_ => (w.heap.size ≤ k_)) v0_ r ∧ Below w.heap.size w w' := by
 have HR1 := zm hr1
 have HC1 := zm hc1
 clear hr1 hc1
 have HR2 := zm hr2
 have HC2 := zm hc2
 clear hr2 hc2
 have HR3 := zm hr3
 have HC3 := zm hc3
 clear hr3 hc3
 have HB := zm (Below.refl w.heap.size w)
 have H := h; clear h; unfold r9MulMod.f at H
 obtain ⟨t101, A5, H⟩ := zO H
 obtain ⟨t104, A6, H⟩ := zO H
 obtain rfl := Option.some.inj H
 go_enter Try.func66, Try.ntmps66
 go_wp2_with (first | ((with_reducible refine gate_callee (f := 97) rfl ?_); refine zG (some 13) Try.func97 #[.int .i64 a0, .slice A1 l1.length c1, .slice A2 l2.length c2] ?_; (with_reducible refine (r9Mul.calls k a0 _ _ l1 _ _ l2 t101 _ (zC (HR1.out)) HC1.out (zC (HR2.out)) HC2.out A5.out).mono ?_); rintro e w7 ⟨v102, rfl, ho0, hb⟩; refine ⟨_, rfl, ?_⟩; have HO103 := zWV (fun k_ => (w.heap.size ≤ k_)) ho0 HB (fun k_ hk_ => (Nat.le_trans (zS HB) hk_)); replace HB := zBb HB hb; obtain ⟨Ao8, co8, eo8⟩ := Kd.V_slice HO103.out; subst eo8) | ((with_reducible refine gate_callee (f := 86) rfl ?_); refine zG (some 15) Try.func86 #[.int .i64 a0, .slice Ao8 t101.length co8, .slice A3 l3.length c3] ?_; (with_reducible refine (r9Mod.calls k a0 _ _ t101 _ _ l3 t104 _ (zC ((Kd.V_reads' HO103.out).2.2)) ((Kd.V_reads' HO103.out).2.1) (zC (Kd.C_below HR3.out HB.out)) HC3.out A6.out).mono ?_); rintro e w9 ⟨v105, rfl, ho0, hb⟩; refine ⟨_, rfl, ?_⟩; replace HO103 := zVb HO103 hb; have HO106 := zWV (fun k_ => (w.heap.size ≤ k_)) ho0 HB (fun k_ hk_ => (Nat.le_trans (zS HB) hk_)); replace HB := zBb HB hb))
 go_ret
 exact ⟨_, zQ, zV HO106.out, zT⟩
mutual
def r9PowMod.l0 : Nat → Int → List Int → ByteArray → List Int → List Int → Int → Option (List Int)
 | 0, _, _, _, _, _, _ => none
 | k + 1, x0, x1, x2, x3, x9, x10 => if x10 < (x2.size : Int) then (r9PowMod.l1 k x0 x1 x2 x3 x9 x10 7) else (some x9)
def r9PowMod.l1 : Nat → Int → List Int → ByteArray → List Int → List Int → Int → Int → Option (List Int)
 | 0, _, _, _, _, _, _, _ => none
 | k + 1, x0, x1, x2, x3, x9, x10, x11 => if x11 ≥ 0 then ((r9MulMod.f k x0 x9 x9 x3).bind fun t110 => (if 0 ≤ x10 then (if x10 < (x2.size : Int) then (if 0 ≤ x11 then (if (Int.tmod (shr .u8 (bt x2 x10) x11) 2) = 1 then ((r9MulMod.f k x0 t110 x1 x3).bind fun t113 => (r9PowMod.l1 k x0 x1 x2 x3 t113 x10 (wrap64 (x11 - 1)))) else (r9PowMod.l1 k x0 x1 x2 x3 t110 x10 (wrap64 (x11 - 1)))) else (none)) else (none)) else (none))) else (r9PowMod.l0 k x0 x1 x2 x3 x9 (wrap64 (x10 + 1)))
end
def r9PowMod.f (k : Nat) (a0 : Int) (l1 : List Int) (a2 : ByteArray) (l3 : List Int) : Option (List Int) := (r9Mod.f k a0 (([1] : List Int)) l3).bind fun t104 => ((r9Mod.f k a0 l1 l3).bind fun t107 => (r9PowMod.l0 k a0 t107 a2 l3 t104 0))
theorem r9PowMod.mono_l : ∀ k, (∀ y0 y1 y2 y3 y4 y5, LeO (r9PowMod.l0 k y0 y1 y2 y3 y4 y5) (r9PowMod.l0 (k + 1) y0 y1 y2 y3 y4 y5)) ∧ (∀ y0 y1 y2 y3 y4 y5 y6, LeO (r9PowMod.l1 k y0 y1 y2 y3 y4 y5 y6) (r9PowMod.l1 (k + 1) y0 y1 y2 y3 y4 y5 y6))
 | 0 => ⟨fun _ _ _ _ _ _ r h => by simp [r9PowMod.l0] at h, fun _ _ _ _ _ _ _ r h => by simp [r9PowMod.l1] at h⟩
 | k + 1 => by
  obtain ⟨ih0, ih1⟩ := r9PowMod.mono_l k
  refine ⟨?_, ?_⟩
  ·intro y0 y1 y2 y3 y4 y5
   unfold r9PowMod.l0
   with_reducible repeat' first | exact ih0 _ _ _ _ _ _ | exact ih1 _ _ _ _ _ _ _ | exact r9Mod.mono _ _ _ _ | exact r9MulMod.mono _ _ _ _ _ | exact LeO.refl _ | exact LeO.none _ | refine LeO.ite ?_ ?_ | refine LeO.bind ?_ (fun _ => ?_)
  intro y0 y1 y2 y3 y4 y5 y6
  unfold r9PowMod.l1
  with_reducible repeat' first | exact ih0 _ _ _ _ _ _ | exact ih1 _ _ _ _ _ _ _ | exact r9Mod.mono _ _ _ _ | exact r9MulMod.mono _ _ _ _ _ | exact LeO.refl _ | exact LeO.none _ | refine LeO.ite ?_ ?_ | refine LeO.bind ?_ (fun _ => ?_)
theorem r9PowMod.mono : ∀ a0 a1 a2 a3 k, LeO (r9PowMod.f k a0 a1 a2 a3) (r9PowMod.f (k + 1) a0 a1 a2 a3) := by
 intro a0 a1 a2 a3 k
 obtain ⟨ih0, ih1⟩ := r9PowMod.mono_l k
 unfold r9PowMod.f
 with_reducible repeat' first | exact ih0 _ _ _ _ _ _ | exact ih1 _ _ _ _ _ _ _ | exact r9Mod.mono _ _ _ _ | exact r9MulMod.mono _ _ _ _ _ | exact LeO.refl _ | exact LeO.none _ | refine LeO.ite ?_ ?_ | refine LeO.bind ?_ (fun _ => ?_)
theorem r9PowMod.calls (k : Nat) (a0 : Int) (A1 : Option Addr) (c1 : Nat) (l1 : List Int) (a2 : ByteArray) (A3 : Option Addr) (c3 : Nat) (l3 : List Int) (r : List Int) (w : World) (hr1 : Kd.C (Kd.int .i64) w A1 l1.length l1) (hc1 : l1.length ≤ c1) (hr3 : Kd.C (Kd.int .i64) w A3 l3.length l3) (hc3 : l3.length ≤ c3) (h : r9PowMod.f k a0 l1 a2 l3 = some r) :
  Calls Try.prog 88 #[.int .i64 a0, .slice A1 l1.length c1, .string a2, .slice A3 l3.length c3] w fun e w' => ∃ v0_ : Value, e = .returned (v0_) ∧ Kd.V (Kd.int .i64) 3 w' w.heap.size (fun k_ => (w.heap.size ≤ k_)) v0_ r ∧ Below w.heap.size w w' := by
 have HR1 := zm hr1
 have HC1 := zm hc1
 clear hr1 hc1
 have HR3 := zm hr3
 have HC3 := zm hc3
 clear hr3 hc3
 have HB := zm (Below.refl w.heap.size w)
 have H := h; clear h; unfold r9PowMod.f at H
 obtain ⟨y101, Ny101⟩ := zA ((([1] : List Int)) : List Int); rw [← Ny101.out] at H
 obtain ⟨t104, A5, H⟩ := zO H
 obtain ⟨t107, A6, H⟩ := zO H
 have H' := zm H
 clear H
 go_enter Try.func88, Try.ntmps88
 go_wp2_with (first | ((with_reducible refine gate_dst (N := 13) rfl ?_); refine Kd.R_lit (Kd.int .i64) _ 3 ?hg (N := 13) ?hd (xs := ([1] : List Int)) (inner := [.int .i64 1]) (ok := fun _ => True) (okp := fun _ => True) ?hr ?hp (fun _ hk => hk) trivial (Below.refl _ _) (Nat.le_refl _) (by simp) ?_; (case hd => rfl); (case hg => rfl); (case hr => go_simp <;> rfl); (case hp => exact (Reps.one (show Kd.M (Kd.int .i64) _ _ _ 1 [.int .i64 1] from rfl) (Reps.none _ _))); intro v102 w7 ho8 hb hg_ hnew_; clear hg_ hnew_; (first | rw [← Ny101.out] at ho8 | (simp only [Int.reduceToNat] at ho8; rw [← Ny101.out] at ho8)); have HO103 := zm (Kd.R_lower (Kd.R_newM (M := fun k_ => (w.heap.size ≤ k_)) ho8 (zS HB) (fun k_ h_ => h_)) (zS HB)); replace HB := zBb HB hb; clear hb ho8; obtain ⟨Ao9, co9, eo9⟩ := Kd.R_slice HO103.out; subst eo9) | ((with_reducible refine gate_callee (f := 86) rfl ?_); refine zG (some 15) Try.func86 #[.int .i64 a0, .slice Ao9 y101.length co9, .slice A3 l3.length c3] ?_; (with_reducible refine (r9Mod.calls k a0 _ _ y101 _ _ l3 t104 _ (zC ((Kd.R_reads' HO103.out).2.2)) ((Kd.R_reads' HO103.out).2.1) (zC (Kd.C_below HR3.out HB.out)) HC3.out A5.out).mono ?_); rintro e w10 ⟨v105, rfl, ho0, hb⟩; refine ⟨_, rfl, ?_⟩; have HO106 := zWV (fun k_ => (w.heap.size ≤ k_) ∧ some k_ ≠ (.slice Ao9 y101.length co9 : Value).ownBlock) ho0 HB (fun k_ hk_ => ⟨(Nat.le_trans (zS HB) hk_), (Kd.fresh' (Kd.R_lt (zR HO103.out)) k_ hk_)⟩); replace HO103 := zRb HO103 hb; replace HB := zBb HB hb) | ((with_reducible refine gate_callee (f := 86) rfl ?_); refine zG (some 19) Try.func86 #[.int .i64 a0, .slice A1 l1.length c1, .slice A3 l3.length c3] ?_; (with_reducible refine (r9Mod.calls k a0 _ _ l1 _ _ l3 t107 _ (zC (Kd.C_below HR1.out HB.out)) HC1.out (zC (Kd.C_below HR3.out HB.out)) HC3.out A6.out).mono ?_); rintro e w11 ⟨v108, rfl, ho0, hb⟩; refine ⟨_, rfl, ?_⟩; replace HO106 := zVb HO106 hb; have HO109 := zWV (fun k_ => (w.heap.size ≤ k_) ∧ some k_ ≠ (.slice Ao9 y101.length co9 : Value).ownBlock) ho0 HB (fun k_ hk_ => ⟨(Nat.le_trans (zS HB) hk_), (Kd.fresh' (Kd.R_lt (zR HO103.out)) k_ hk_)⟩); replace HO103 := zRb HO103 hb; replace HB := zBb HB hb))
 go_loopg [9, 10] k (fun kq v9 v10 w' => ∃ (x9_1 : List Int) (x10_1 : Int), v10 = .int .i64 x10_1 ∧ Aside0 (r9PowMod.l0 kq a0 t107 a2 l3 x9_1 x10_1 = some r) ∧ Aside0 (kq ≤ k) ∧ Aside0 (Kd.V (Kd.int .i64) 3 w' w.heap.size (fun k_ => (w.heap.size ≤ k_)) v108 t107) ∧ Aside0 (Kd.V (Kd.int .i64) 3 w' w.heap.size (fun k_ => (w.heap.size ≤ k_)) v9 x9_1) ∧ Aside0 (Below w.heap.size w w'))
 case atStart => exact ⟨(t104), (0), zX, H', ⟨Nat.le_refl _⟩, ⟨zV (Kd.V_mono HO109.out (fun _ hk => hk.1))⟩, ⟨zV (Kd.V_mono HO106.out (fun _ hk => hk.1))⟩, ⟨zT⟩⟩
 case round =>
  clear H'
  obtain ⟨x9_1, x10_1, rfl, HA, HK1, HO_1, HO_9, HB⟩ := hrel
  cases gk with
  | zero => exact absurd HA.out (by simp [r9PowMod.l0])
  | succ k1 =>
   have H := HA.out
   clear HA
   simp only [r9PowMod.l0] at H
   by_cases c12 : x10_1 < (a2.size : Int)
   rotate_left
   ·rw [if_neg c12] at H
    have c12b0 := decide_eq_false c12; clear c12
    obtain rfl := Option.some.inj H
    go_wp2
    go_ret
    exact ⟨_, zQ, zV HO_9.out, zT⟩
   rw [if_pos c12] at H
   have c12b0 := decide_eq_true c12; clear c12
   have H' := zm H
   clear H
   go_wp2
   go_loopg [9, 11] k1 (fun kq v9 v11 w' => ∃ (x9_2 : List Int) (x11_2 : Int), v11 = .int .i64 x11_2 ∧ Aside0 (r9PowMod.l1 kq a0 t107 a2 l3 x9_2 x10_1 x11_2 = some r) ∧ Aside0 (kq ≤ k1) ∧ Aside0 (Kd.V (Kd.int .i64) 3 w' w.heap.size (fun k_ => (w.heap.size ≤ k_)) v108 t107) ∧ Aside0 (Kd.V (Kd.int .i64) 3 w' w.heap.size (fun k_ => (w.heap.size ≤ k_)) v9 x9_2) ∧ Aside0 (Below w.heap.size w w'))
   case atStart => exact ⟨(x9_1), (7), zX, H', ⟨Nat.le_refl _⟩, ⟨zV HO_1.out⟩, ⟨zV HO_9.out⟩, ⟨zT⟩⟩
   case round =>
    clear H'
    obtain ⟨x9_2, x11_2, rfl, HA, HK2, HO_1, HO_9, HB⟩ := hrel
    cases gk with
    | zero => exact absurd HA.out (by simp [r9PowMod.l1])
    | succ k2 =>
     have H := HA.out
     clear HA
     simp only [r9PowMod.l1] at H
     by_cases c13 : x11_2 ≥ 0
     rotate_left
     ·rw [if_neg c13] at H
      have c13b0 := decide_eq_false c13; clear c13
      have H' := zm H
      clear H
      go_wp2
      go_roundg k2
      case measure => have := HK1.out; have := HK2.out; omega
      case rel => exact ⟨(x9_2), (wrap64 (x10_1 + 1)), zX, H', ⟨by have := HK1.out; have := HK2.out; omega⟩, ⟨zV HO_1.out⟩, ⟨zV HO_9.out⟩, ⟨zT⟩⟩
     rw [if_pos c13] at H
     have c13b0 := decide_eq_true c13; clear c13
     obtain ⟨t110, A14, H⟩ := zO H
     by_cases c15 : 0 ≤ x10_1
     rotate_left
     ·rw [if_neg c15] at H
      exact absurd H (by simp)
     rw [if_pos c15] at H
     have c15b0 := decide_eq_true c15; clear c15
     by_cases c16 : x10_1 < (a2.size : Int)
     rotate_left
     ·rw [if_neg c16] at H
      exact absurd H (by simp)
     rw [if_pos c16] at H
     have c16b0 := decide_eq_true c16; clear c16
     by_cases c18 : 0 ≤ x11_2
     rotate_left
     ·rw [if_neg c18] at H
      exact absurd H (by simp)
     rw [if_pos c18] at H
     have c18b0 := eq_true c18; have c18b1 := decide_eq_true c18; clear c18
     obtain ⟨ji19, hji19⟩ : ∃ j_ : Int, (shr .u8 (bt a2 x10_1) x11_2) = j_ := ⟨_, rfl⟩
     first | rw [hji19] at H | simp only [hji19] at H
     (try rw [hji19] at A14)
     have hji19_ : ((bt a2 x10_1) / 2 ^ min x11_2.toNat 8) = ji19 := hji19
     have hji19z : x11_2 ≤ 8 → ((bt a2 x10_1) / 2 ^ x11_2.toNat) = ji19 := shr_small hji19
     by_cases c20 : (Int.tmod (ji19) 2) = 1
     rotate_left
     ·rw [if_neg c20] at H
      obtain ⟨c20b0, c20b1⟩ := zU c20
      have H' := zm H
      clear H
      obtain ⟨Ao27, co27, eo27⟩ := Kd.V_slice HO_9.out
      subst eo27
      go_wp2_with (first | ((with_reducible refine gate_callee (f := 66) rfl ?_); refine zG (some 34) Try.func66 #[.int .i64 a0, .slice Ao27 x9_2.length co27, .slice Ao27 x9_2.length co27, .slice A3 l3.length c3] ?_; (with_reducible refine (r9MulMod.calls k2 a0 _ _ x9_2 _ _ x9_2 _ _ l3 t110 _ (zC ((Kd.V_reads' HO_9.out).2.2)) ((Kd.V_reads' HO_9.out).2.1) (zC ((Kd.V_reads' HO_9.out).2.2)) ((Kd.V_reads' HO_9.out).2.1) (zC (Kd.C_below HR3.out HB.out)) HC3.out A14.out).mono ?_); rintro e w28 ⟨v111, rfl, ho0, hb⟩; refine ⟨_, rfl, ?_⟩; replace HO_1 := zVb HO_1 hb; replace HO_9 := zVb HO_9 hb; have HO112 := zWV (fun k_ => (w.heap.size ≤ k_)) ho0 HB (fun k_ hk_ => (Nat.le_trans (zS HB) hk_)); replace HB := zBb HB hb; have p17 : 0 ≤ (x10_1 : Int) := zD; have q17 : x10_1 < (a2.size : Int) := zD; have hx17 := bt_at a2 x10_1; replace p17 := eq_true p17; replace q17 := eq_true q17))
      go_roundg k2
      case measure => have := HK1.out; have := HK2.out; omega
      case rel => exact ⟨(t110), (wrap64 (x11_2 - 1)), zX, H', ⟨by have := HK1.out; have := HK2.out; omega⟩, ⟨zV HO_1.out⟩, ⟨zV HO112.out⟩, ⟨zT⟩⟩
     rw [if_pos c20] at H
     obtain ⟨c20b0, c20b1⟩ := zE c20; clear c20
     obtain ⟨t113, A21, H⟩ := zO H
     have H' := zm H
     clear H
     obtain ⟨Ao22, co22, eo22⟩ := Kd.V_slice HO_9.out
     subst eo22
     go_wp2_with (first | ((with_reducible refine gate_callee (f := 66) rfl ?_); refine zG (some 34) Try.func66 #[.int .i64 a0, .slice Ao22 x9_2.length co22, .slice Ao22 x9_2.length co22, .slice A3 l3.length c3] ?_; (with_reducible refine (r9MulMod.calls k2 a0 _ _ x9_2 _ _ x9_2 _ _ l3 t110 _ (zC ((Kd.V_reads' HO_9.out).2.2)) ((Kd.V_reads' HO_9.out).2.1) (zC ((Kd.V_reads' HO_9.out).2.2)) ((Kd.V_reads' HO_9.out).2.1) (zC (Kd.C_below HR3.out HB.out)) HC3.out A14.out).mono ?_); rintro e w23 ⟨v111, rfl, ho0, hb⟩; refine ⟨_, rfl, ?_⟩; replace HO_1 := zVb HO_1 hb; replace HO_9 := zVb HO_9 hb; have HO112 := zWV (fun k_ => (w.heap.size ≤ k_)) ho0 HB (fun k_ hk_ => (Nat.le_trans (zS HB) hk_)); replace HB := zBb HB hb; have p17 : 0 ≤ (x10_1 : Int) := zD; have q17 : x10_1 < (a2.size : Int) := zD; have hx17 := bt_at a2 x10_1; replace p17 := eq_true p17; replace q17 := eq_true q17; obtain ⟨Ao24, co24, eo24⟩ := Kd.V_slice HO112.out; subst eo24; obtain ⟨Ao25, co25, eo25⟩ := Kd.V_slice HO_1.out; subst eo25) | ((with_reducible refine gate_callee (f := 66) rfl ?_); refine zG (some 46) Try.func66 #[.int .i64 a0, .slice Ao24 t110.length co24, .slice Ao25 t107.length co25, .slice A3 l3.length c3] ?_; (with_reducible refine (r9MulMod.calls k2 a0 _ _ t110 _ _ t107 _ _ l3 t113 _ (zC ((Kd.V_reads' HO112.out).2.2)) ((Kd.V_reads' HO112.out).2.1) (zC ((Kd.V_reads' HO_1.out).2.2)) ((Kd.V_reads' HO_1.out).2.1) (zC (Kd.C_below HR3.out HB.out)) HC3.out A21.out).mono ?_); rintro e w26 ⟨v114, rfl, ho0, hb⟩; refine ⟨_, rfl, ?_⟩; replace HO_1 := zVb HO_1 hb; replace HO_9 := zVb HO_9 hb; replace HO112 := zVb HO112 hb; have HO115 := zWV (fun k_ => (w.heap.size ≤ k_)) ho0 HB (fun k_ hk_ => (Nat.le_trans (zS HB) hk_)); replace HB := zBb HB hb))
     go_roundg k2
     case measure => have := HK1.out; have := HK2.out; omega
     case rel => exact ⟨(t113), (wrap64 (x11_2 - 1)), zX, H', ⟨by have := HK1.out; have := HK2.out; omega⟩, ⟨zV HO_1.out⟩, ⟨zV HO115.out⟩, ⟨zT⟩⟩
mutual
def r1pack.l0 : Nat → List Int → List Int → Int → Option (ByteArray)
 | 0, _, _, _ => none
 | k + 1, x0, x3, x4 => if x4 ≥ 0 then (r1pack.l1 k x0 x3 x4 24) else (some (strOfNums x3))
def r1pack.l1 : Nat → List Int → List Int → Int → Int → Option (ByteArray)
 | 0, _, _, _, _ => none
 | k + 1, x0, x3, x4, x5 => if x5 ≥ 0 then (if 0 ≤ x4 then (if x4 < (x0.length : Int) then (if 0 ≤ x5 then (if (x3.length : Int) > 0 then (if x3.length < 140737488355328 then (r1pack.l1 k x0 (x3 ++ [(shr .u64 (rd x0 x4) x5) % 256]) x4 (wrap64 (x5 - 8))) else (none)) else (if ((shr .u64 (rd x0 x4) x5) % 256) > 0 then (if x3.length < 140737488355328 then (r1pack.l1 k x0 (x3 ++ [(shr .u64 (rd x0 x4) x5) % 256]) x4 (wrap64 (x5 - 8))) else (none)) else (r1pack.l1 k x0 x3 x4 (wrap64 (x5 - 8))))) else (none)) else (none)) else (none)) else (r1pack.l0 k x0 x3 (wrap64 (x4 - 1)))
end
def r1pack.f (k : Nat) (l0 : List Int) : Option (ByteArray) := r1pack.l0 k l0 ([] : List Int) (wrap64 ((l0.length : Int) - 1))
theorem r1pack.mono_l : ∀ k, (∀ y0 y1 y2, LeO (r1pack.l0 k y0 y1 y2) (r1pack.l0 (k + 1) y0 y1 y2)) ∧ (∀ y0 y1 y2 y3, LeO (r1pack.l1 k y0 y1 y2 y3) (r1pack.l1 (k + 1) y0 y1 y2 y3))
 | 0 => ⟨fun _ _ _ r h => by simp [r1pack.l0] at h, fun _ _ _ _ r h => by simp [r1pack.l1] at h⟩
 | k + 1 => by
  obtain ⟨ih0, ih1⟩ := r1pack.mono_l k
  refine ⟨?_, ?_⟩
  ·intro y0 y1 y2
   unfold r1pack.l0
   with_reducible repeat' first | exact ih0 _ _ _ | exact ih1 _ _ _ _ | exact LeO.refl _ | exact LeO.none _ | refine LeO.ite ?_ ?_ | refine LeO.bind ?_ (fun _ => ?_)
  intro y0 y1 y2 y3
  unfold r1pack.l1
  with_reducible repeat' first | exact ih0 _ _ _ | exact ih1 _ _ _ _ | exact LeO.refl _ | exact LeO.none _ | refine LeO.ite ?_ ?_ | refine LeO.bind ?_ (fun _ => ?_)
theorem r1pack.mono : ∀ a0 k, LeO (r1pack.f k a0) (r1pack.f (k + 1) a0) := by
 intro a0 k
 obtain ⟨ih0, ih1⟩ := r1pack.mono_l k
 unfold r1pack.f
 with_reducible repeat' first | exact ih0 _ _ _ | exact ih1 _ _ _ _ | exact LeO.refl _ | exact LeO.none _ | refine LeO.ite ?_ ?_ | refine LeO.bind ?_ (fun _ => ?_)
theorem r1pack.calls (k : Nat) (A0 : Option Addr) (c0 : Nat) (l0 : List Int) (r : ByteArray) (w : World) (hr0 : Kd.C (Kd.int .u64) w A0 l0.length l0) (hc0 : l0.length ≤ c0) (h : r1pack.f k l0 = some r) :
  Calls Try.prog 100 #[.slice A0 l0.length c0] w fun e w' => e = .returned (.string r) ∧ Below w.heap.size w w' := by
 have HR0 := zm hr0
 have HC0 := zm hc0
 clear hr0 hc0
 have HB := zm (Below.refl w.heap.size w)
 have H := h; clear h; unfold r1pack.f at H
 have H' := zm H
 clear H
 go_enter Try.func100, Try.ntmps100
 go_wp2
 go_loopg [3, 4] k (fun kq v3 v4 w' => ∃ (x3_1 : List Int) (x4_1 : Int), v4 = .int .i64 x4_1 ∧ Aside0 (r1pack.l0 kq l0 x3_1 x4_1 = some r) ∧ Aside0 (kq ≤ k) ∧ Aside0 (Kd.R (Kd.int .u8) 5 w' w.heap.size (fun _ => True) v3 x3_1) ∧ Aside0 (Below w.heap.size w w'))
 case atStart => exact ⟨(([] : List Int)), (wrap64 ((l0.length : Int) - 1)), zX, H', ⟨Nat.le_refl _⟩, ⟨by first | exact Kd.R_nil _ _ _ _ _ | exact Kd.N_nil _ _ _ _ _ | exact Kd.V_nil _ _ _ _ _ | exact Kd.Q_nil _ _ _ _ _ | exact Kd.S_nil _ _ _ _ _⟩, ⟨zT⟩⟩
 case round =>
  clear H'
  obtain ⟨x3_1, x4_1, rfl, HA, HK1, HO_3, HB⟩ := hrel
  cases gk with
  | zero => exact absurd HA.out (by simp [r1pack.l0])
  | succ k1 =>
   have H := HA.out
   clear HA
   simp only [r1pack.l0] at H
   by_cases c2 : x4_1 ≥ 0
   rotate_left
   ·rw [if_neg c2] at H
    have c2b0 := decide_eq_false c2; clear c2
    obtain rfl := Option.some.inj H
    have hcv17 := own_string (P := Try.prog) Try.underlying112 Try.underlying5 Try.underlying9 (Kd.own_of_R HO_3.out)
    go_wp2
    go_ret
    exact ⟨zQ, zT⟩
   rw [if_pos c2] at H
   have c2b0 := decide_eq_true c2; clear c2
   have H' := zm H
   clear H
   go_wp2
   go_loopg [3, 5] k1 (fun kq v3 v5 w' => ∃ (x3_2 : List Int) (x5_2 : Int), v5 = .int .i64 x5_2 ∧ Aside0 (r1pack.l1 kq l0 x3_2 x4_1 x5_2 = some r) ∧ Aside0 (kq ≤ k1) ∧ Aside0 (Kd.R (Kd.int .u8) 5 w' w.heap.size (fun _ => True) v3 x3_2) ∧ Aside0 (Below w.heap.size w w'))
   case atStart => exact ⟨(x3_1), (24), zX, H', ⟨Nat.le_refl _⟩, ⟨zR HO_3.out⟩, ⟨zT⟩⟩
   case round =>
    clear H'
    obtain ⟨x3_2, x5_2, rfl, HA, HK2, HO_3, HB⟩ := hrel
    cases gk with
    | zero => exact absurd HA.out (by simp [r1pack.l1])
    | succ k2 =>
     have H := HA.out
     clear HA
     simp only [r1pack.l1] at H
     by_cases c3 : x5_2 ≥ 0
     rotate_left
     ·rw [if_neg c3] at H
      have c3b0 := decide_eq_false c3; clear c3
      have H' := zm H
      clear H
      go_wp2
      go_roundg k2
      case measure => have := HK1.out; have := HK2.out; omega
      case rel => exact ⟨(x3_2), (wrap64 (x4_1 - 1)), zX, H', ⟨by have := HK1.out; have := HK2.out; omega⟩, ⟨zR HO_3.out⟩, ⟨zT⟩⟩
     rw [if_pos c3] at H
     have c3b0 := decide_eq_true c3; clear c3
     by_cases c4 : 0 ≤ x4_1
     rotate_left
     ·rw [if_neg c4] at H
      exact absurd H (by simp)
     rw [if_pos c4] at H
     have c4b0 := decide_eq_true c4; clear c4
     by_cases c5 : x4_1 < (l0.length : Int)
     rotate_left
     ·rw [if_neg c5] at H
      exact absurd H (by simp)
     rw [if_pos c5] at H
     have c5b0 := decide_eq_true c5; clear c5
     by_cases c6 : 0 ≤ x5_2
     rotate_left
     ·rw [if_neg c6] at H
      exact absurd H (by simp)
     rw [if_pos c6] at H
     have c6b0 := eq_true c6; have c6b1 := decide_eq_true c6; clear c6
     obtain ⟨ji7, hji7⟩ : ∃ j_ : Int, (shr .u64 (rd l0 x4_1) x5_2) = j_ := ⟨_, rfl⟩
     first | rw [hji7] at H | simp only [hji7] at H
     have hji7_ : ((rd l0 x4_1) / 2 ^ min x5_2.toNat 64) = ji7 := hji7
     have hji7z : x5_2 ≤ 64 → ((rd l0 x4_1) / 2 ^ x5_2.toNat) = ji7 := shr_small hji7
     by_cases c8 : (x3_2.length : Int) > 0
     ·rw [if_pos c8] at H
      have c8b0 : decide (0 < (x3_2.length : Int)) = true := decide_eq_true c8
      have c8b1 : decide (0 < x3_2.length) = true := decide_eq_true (by omega)
      clear c8
      by_cases c9 : x3_2.length < 140737488355328
      rotate_left
      ·rw [if_neg c9] at H
       exact absurd H (by simp)
      rw [if_pos c9] at H
      have LMc9 := zm c9
      clear c9
      obtain ⟨y102, hy102⟩ : ∃ y_ : List Int, y_ = (x3_2 ++ [(ji7) % 256]) := ⟨_, rfl⟩
      replace H : (r1pack.l1 k2 l0 y102 x4_1 (wrap64 (x5_2 - 8))) = some r := by first | (rw [hy102]; with_reducible exact H) | (have H2_ := (Option.bind_some _ _).symm.trans H; rw [hy102]; with_reducible exact H2_) | (have H2_ := (Option.bind_some _ _).symm.trans H; with_reducible exact H2_) | with_reducible exact H | (rw [hy102]; exact H) | exact H
      have Ny102 := zm hy102
      clear hy102
      have H' := zm H
      clear H
      obtain ⟨p101, q101, ad101, e101, hx101_0⟩ := zI (HR0.out) (x4_1) zD zD
      cases e101
      replace hx101_0 := (HB.out.cell (World.block_lt_of_cell? w _ hx101_0)).trans hx101_0
      obtain ⟨Ao10, co10, eo10⟩ := Kd.R_slice HO_3.out
      subst eo10
      go_wp2_with (first | ((with_reducible refine gate_builtin (b := .append) (xs := #[.tmp 32, .tmp 34]) rfl ?_); at_builtin; refine Kd.R_append (Kd.int .u8) (w0 := w) w.heap.size rfl (.tmp 32) (.tmp 34) 112 5 (.int .u8 0) 1 rfl Try.underlying112 info5 rfl (by decide) (by omega) (.slice Ao10 x3_2.length co10) x3_2 ((ji7) % 256) [.int .u8 ((ji7) % 256)] (fun _ => True) (fun _ => False) rfl rfl ?aP (fun _ hk => hk.elim) ?aF ?aO ?aB ?aS ?aL ?_; (case aP => exact rfl); (case aB => exact (zT)); (case aF => exact (fun _ _ => trivial)); (case aO => exact (zR HO_3.out)); (case aS => exact (zS HB)); (case aL => have := LMc9.out; omega); intro v103 w11 ho hb hg hat; rw [← Ny102.out] at ho; replace HB := zm (hb); have HO104 := zm (ho); clear HO_3; clear ho hb hg hat))
      go_roundg k2
      case measure => have := HK1.out; have := HK2.out; omega
      case rel => exact ⟨(y102), (wrap64 (x5_2 - 8)), zX, H', ⟨by have := HK1.out; have := HK2.out; omega⟩, ⟨zR HO104.out⟩, ⟨zT⟩⟩
     rw [if_neg c8] at H
     have c8b0 : decide (0 < (x3_2.length : Int)) = false := decide_eq_false c8
     have c8b1 : decide (0 < x3_2.length) = false := decide_eq_false (by omega)
     clear c8
     by_cases c12 : ((ji7) % 256) > 0
     rotate_left
     ·rw [if_neg c12] at H
      have c12b0 := decide_eq_false c12; clear c12
      have H' := zm H
      clear H
      obtain ⟨p101, q101, ad101, e101, hx101_0⟩ := zI (HR0.out) (x4_1) zD zD
      cases e101
      replace hx101_0 := (HB.out.cell (World.block_lt_of_cell? w _ hx101_0)).trans hx101_0
      obtain ⟨Ao16, co16, eo16⟩ := Kd.R_slice HO_3.out
      subst eo16
      go_wp2
      go_roundg k2
      case measure => have := HK1.out; have := HK2.out; omega
      case rel => exact ⟨(x3_2), (wrap64 (x5_2 - 8)), zX, H', ⟨by have := HK1.out; have := HK2.out; omega⟩, ⟨zR HO_3.out⟩, ⟨zT⟩⟩
     rw [if_pos c12] at H
     have c12b0 := decide_eq_true c12; clear c12
     by_cases c13 : x3_2.length < 140737488355328
     rotate_left
     ·rw [if_neg c13] at H
      exact absurd H (by simp)
     rw [if_pos c13] at H
     have LMc13 := zm c13
     clear c13
     obtain ⟨y105, hy105⟩ : ∃ y_ : List Int, y_ = (x3_2 ++ [(ji7) % 256]) := ⟨_, rfl⟩
     replace H : (r1pack.l1 k2 l0 y105 x4_1 (wrap64 (x5_2 - 8))) = some r := by first | (rw [hy105]; with_reducible exact H) | (have H2_ := (Option.bind_some _ _).symm.trans H; rw [hy105]; with_reducible exact H2_) | (have H2_ := (Option.bind_some _ _).symm.trans H; with_reducible exact H2_) | with_reducible exact H | (rw [hy105]; exact H) | exact H
     have Ny105 := zm hy105
     clear hy105
     have H' := zm H
     clear H
     obtain ⟨p101, q101, ad101, e101, hx101_0⟩ := zI (HR0.out) (x4_1) zD zD
     cases e101
     replace hx101_0 := (HB.out.cell (World.block_lt_of_cell? w _ hx101_0)).trans hx101_0
     obtain ⟨Ao14, co14, eo14⟩ := Kd.R_slice HO_3.out
     subst eo14
     go_wp2_with (first | ((with_reducible refine gate_builtin (b := .append) (xs := #[.tmp 32, .tmp 34]) rfl ?_); at_builtin; refine Kd.R_append (Kd.int .u8) (w0 := w) w.heap.size rfl (.tmp 32) (.tmp 34) 112 5 (.int .u8 0) 1 rfl Try.underlying112 info5 rfl (by decide) (by omega) (.slice Ao14 x3_2.length co14) x3_2 ((ji7) % 256) [.int .u8 ((ji7) % 256)] (fun _ => True) (fun _ => False) rfl rfl ?aP (fun _ hk => hk.elim) ?aF ?aO ?aB ?aS ?aL ?_; (case aP => exact rfl); (case aB => exact (zT)); (case aF => exact (fun _ _ => trivial)); (case aO => exact (zR HO_3.out)); (case aS => exact (zS HB)); (case aL => have := LMc13.out; omega); intro v106 w15 ho hb hg hat; rw [← Ny105.out] at ho; replace HB := zm (hb); have HO107 := zm (ho); clear HO_3; clear ho hb hg hat))
     go_roundg k2
     case measure => have := HK1.out; have := HK2.out; omega
     case rel => exact ⟨(y105), (wrap64 (x5_2 - 8)), zX, H', ⟨by have := HK1.out; have := HK2.out; omega⟩, ⟨zR HO107.out⟩, ⟨zT⟩⟩
def r9Lead.f (l0 : List Int) : Option (Int) := if (l0.length : Int) = 0 then (some 0) else (if 0 ≤ (wrap64 ((l0.length : Int) - 1)) then (if (wrap64 ((l0.length : Int) - 1)) < (l0.length : Int) then (some (rd l0 (wrap64 ((l0.length : Int) - 1)))) else (none)) else (none))
theorem r9Lead.calls (A0 : Option Addr) (c0 : Nat) (l0 : List Int) (r : Int) (w : World) (hr0 : Kd.C (Kd.int .i64) w A0 l0.length l0) (hc0 : l0.length ≤ c0) (h : r9Lead.f l0 = some r) :
  Calls Try.prog 63 #[.slice A0 l0.length c0] w fun e w' => e = .returned (.int .i64 r) ∧ Drawn0 w w' := by
 have HR0 := zm hr0
 have HC0 := zm hc0
 clear hr0 hc0
 have H := h; clear h; unfold r9Lead.f at H
 by_cases c2 : (l0.length : Int) = 0
 ·rw [if_pos c2] at H
  obtain ⟨c2b0, c2b1⟩ := zE c2; clear c2
  obtain rfl := Option.some.inj H
  go_enter Try.func63, Try.ntmps63
  go_wp2
  go_ret
  exact ⟨by first | rfl | (simp; done) | (simp [*]; done), by repeat (first | exact Drawn0.refl _ | apply Drawn0.step)⟩
 rw [if_neg c2] at H
 obtain ⟨c2b0, c2b1⟩ := zU c2
 have c2b2 : ¬ (l0 = []) := fun h_ => c2 (by rw [h_]; rfl)
 obtain ⟨ji3, hji3⟩ : ∃ j_ : Int, (wrap64 ((l0.length : Int) - 1)) = j_ := ⟨_, rfl⟩
 first | rw [hji3] at H | simp only [hji3] at H
 have hji3w : (IntKind.i64.wrap ((l0.length : Int) - 1)) = ji3 := (i64_w _).trans hji3
 by_cases c4 : 0 ≤ (ji3)
 rotate_left
 ·rw [if_neg c4] at H
  exact absurd H (by simp)
 rw [if_pos c4] at H
 have c4b0 := decide_eq_true c4; clear c4
 by_cases c5 : (ji3) < (l0.length : Int)
 rotate_left
 ·rw [if_neg c5] at H
  exact absurd H (by simp)
 rw [if_pos c5] at H
 have c5b0 := decide_eq_true c5; clear c5
 obtain rfl := Option.some.inj H
 obtain ⟨p101, q101, ad101, e101, hx101_0⟩ := zI (HR0.out) ((ji3)) zD zD
 cases e101
 go_enter Try.func63, Try.ntmps63
 go_wp2
 go_ret
 exact ⟨by first | rfl | (simp; done) | (simp only [← hji3] <;> (first | rfl | simp)) | (simp [*]; done), by repeat (first | exact Drawn0.refl _ | apply Drawn0.step)⟩
def r9Monic.f (k : Nat) (a0 : Int) (l1 : List Int) : Option (List Int) := if (l1.length : Int) = 0 then (some ([] : List Int)) else ((r9Lead.f l1).bind fun t101 => ((r4Inverse.f k t101 a0).bind fun t102 => ((r9Scale.f k a0 l1 t102).bind fun t103 => (some t103))))
theorem r9Monic.mono : ∀ a0 a1 k, LeO (r9Monic.f k a0 a1) (r9Monic.f (k + 1) a0 a1) := by
 intro a0 a1 k
 unfold r9Monic.f
 with_reducible repeat' first | exact r4Inverse.mono _ _ _ | exact r9Scale.mono _ _ _ _ | exact LeO.refl _ | exact LeO.none _ | refine LeO.ite ?_ ?_ | refine LeO.bind ?_ (fun _ => ?_)
theorem r9Monic.calls (k : Nat) (a0 : Int) (A1 : Option Addr) (c1 : Nat) (l1 : List Int) (r : List Int) (w : World) (hr1 : Kd.C (Kd.int .i64) w A1 l1.length l1) (hc1 : l1.length ≤ c1) (h : r9Monic.f k a0 l1 = some r) :
  Calls Try.prog 109 #[.int .i64 a0, .slice A1 l1.length c1] w fun e w' => ∃ v0_ : Value, e = .returned (v0_) ∧ Kd.V (Kd.int .i64) 3 w' w.heap.size (fun k_ => (w.heap.size ≤ k_)) v0_ r ∧ Below w.heap.size w w' := by
 have HR1 := zm hr1
 have HC1 := zm hc1
 clear hr1 hc1
 have HB := zm (Below.refl w.heap.size w)
 have H := h; clear h; unfold r9Monic.f at H
 by_cases c3 : (l1.length : Int) = 0
 ·rw [if_pos c3] at H
  obtain ⟨c3b0, c3b1⟩ := zE c3; clear c3
  obtain rfl := Option.some.inj H
  go_enter Try.func109, Try.ntmps109
  go_wp2
  go_ret
  exact ⟨_, zQ, zL, zT⟩
 rw [if_neg c3] at H
 obtain ⟨c3b0, c3b1⟩ := zU c3
 have c3b2 : ¬ (l1 = []) := fun h_ => c3 (by rw [h_]; rfl)
 obtain ⟨t101, A4, H⟩ := zO H
 obtain ⟨t102, A5, H⟩ := zO H
 obtain ⟨t103, A6, H⟩ := zO H
 obtain rfl := Option.some.inj H
 go_enter Try.func109, Try.ntmps109
 go_wp2_with (first | ((with_reducible refine gate_callee (f := 63) rfl ?_); refine zG (some 11) Try.func63 #[.slice A1 l1.length c1] ?_; (with_reducible refine (r9Lead.calls _ _ l1 t101 _ (zC (HR1.out)) HC1.out A4.out).mono ?_); rintro e w' ⟨rfl, ⟨nd, rfl⟩⟩; refine ⟨_, rfl, ?_⟩) | ((with_reducible refine gate_callee (f := 120) rfl ?_); refine zG (some 13) Try.func120 #[.int .i64 t101, .int .i64 a0] ?_; (with_reducible refine (r4Inverse.calls k t101 a0 t102 _ A5.out).mono ?_); rintro e w' ⟨rfl, ⟨nd, rfl⟩⟩; refine ⟨_, rfl, ?_⟩) | ((with_reducible refine gate_callee (f := 96) rfl ?_); refine zG (some 14) Try.func96 #[.int .i64 a0, .slice A1 l1.length c1, .int .i64 t102] ?_; (with_reducible refine (r9Scale.calls k a0 _ _ l1 t102 t103 _ (zC (HR1.out)) HC1.out A6.out).mono ?_); rintro e w7 ⟨v104, rfl, ho0, hb⟩; refine ⟨_, rfl, ?_⟩; have HO105 := zWV (fun k_ => (w.heap.size ≤ k_)) ho0 HB (fun k_ hk_ => (Nat.le_trans (zS HB) hk_)); replace HB := zBb HB hb))
 go_ret
 exact ⟨_, zQ, zV HO105.out, zT⟩
def r1Of.f (k : Nat) (a0 : Int) : Option (ByteArray) := (r1pack.f k (([Go.bits .and .u64 a0 4294967295, a0 / 4294967296] : List Int))).bind fun t104 => (some t104)
theorem r1Of.mono : ∀ a0 k, LeO (r1Of.f k a0) (r1Of.f (k + 1) a0) := by
 intro a0 k
 unfold r1Of.f
 with_reducible repeat' first | exact r1pack.mono _ _ | exact LeO.refl _ | exact LeO.none _ | refine LeO.ite ?_ ?_ | refine LeO.bind ?_ (fun _ => ?_)
theorem r1Of.calls (k : Nat) (a0 : Int) (r : ByteArray) (w : World) (h : r1Of.f k a0 = some r) :
  Calls Try.prog 70 #[.int .u64 a0] w fun e w' => e = .returned (.string r) ∧ Below w.heap.size w w' := by
 have HB := zm (Below.refl w.heap.size w)
 have H := h; clear h; unfold r1Of.f at H
 obtain ⟨y101, Ny101⟩ := zA ((([Go.bits .and .u64 a0 4294967295, a0 / 4294967296] : List Int)) : List Int); rw [← Ny101.out] at H
 obtain ⟨t104, A2, H⟩ := zO H
 obtain rfl := Option.some.inj H
 go_enter Try.func70, Try.ntmps70
 go_wp2_with (first | ((with_reducible refine gate_dst (N := 7) rfl ?_); refine Kd.R_lit (Kd.int .u64) _ 84 ?hg (N := 7) ?hd (xs := ([Go.bits .and .u64 a0 4294967295, a0 / 4294967296] : List Int)) (inner := [.int .u64 (Go.bits .and .u64 a0 4294967295), .int .u64 (a0 / 4294967296)]) (ok := fun _ => True) (okp := fun _ => True) ?hr ?hp (fun _ hk => hk) trivial (Below.refl _ _) (Nat.le_refl _) (by simp) ?_; (case hd => rfl); (case hg => rfl); (case hr => go_simp <;> rfl); (case hp => exact (Reps.one (show Kd.M (Kd.int .u64) _ _ _ (Go.bits .and .u64 a0 4294967295) [.int .u64 (Go.bits .and .u64 a0 4294967295)] from rfl) (Reps.one (show Kd.M (Kd.int .u64) _ _ _ (a0 / 4294967296) [.int .u64 (a0 / 4294967296)] from rfl) (Reps.none _ _)))); intro v102 w3 ho4 hb hg_ hnew_; clear hg_ hnew_; (first | rw [← Ny101.out] at ho4 | (simp only [Int.reduceToNat] at ho4; rw [← Ny101.out] at ho4)); have HO103 := zm (Kd.R_lower ho4 (zS HB)); replace HB := zBb HB hb; clear hb ho4; obtain ⟨Ao5, co5, eo5⟩ := Kd.R_slice HO103.out; subst eo5) | ((with_reducible refine gate_callee (f := 100) rfl ?_); refine zG (some 8) Try.func100 #[.slice Ao5 y101.length co5] ?_; (with_reducible refine (r1pack.calls k _ _ y101 t104 _ (zC ((Kd.R_reads' HO103.out).2.2)) ((Kd.R_reads' HO103.out).2.1) A2.out).mono ?_); rintro e w6 ⟨rfl, hb⟩; refine ⟨_, rfl, ?_⟩; replace HO103 := zRb HO103 hb; replace HB := zBb HB hb))
 go_ret
 exact ⟨zQ, zT⟩
def r1FromInt.f (k : Nat) (a0 : Int) : Option (ByteArray) := (r1Of.f k (IntKind.u64.wrap (a0))).bind fun t101 => (some t101)
theorem r1FromInt.mono : ∀ a0 k, LeO (r1FromInt.f k a0) (r1FromInt.f (k + 1) a0) := by
 intro a0 k
 unfold r1FromInt.f
 with_reducible repeat' first | exact r1Of.mono _ _ | exact LeO.refl _ | exact LeO.none _ | refine LeO.ite ?_ ?_ | refine LeO.bind ?_ (fun _ => ?_)
theorem r1FromInt.calls (k : Nat) (a0 : Int) (r : ByteArray) (w : World) (h : r1FromInt.f k a0 = some r) :
  Calls Try.prog 35 #[.int .i64 a0] w fun e w' => e = .returned (.string r) ∧ Below w.heap.size w w' := by
 have HB := zm (Below.refl w.heap.size w)
 have H := h; clear h; unfold r1FromInt.f at H
 obtain ⟨t101, A2, H⟩ := zO H
 obtain rfl := Option.some.inj H
 go_enter Try.func35, Try.ntmps35
 go_wp2_with (first | ((with_reducible refine gate_callee (f := 70) rfl ?_); refine zG (some 5) Try.func70 #[.int .u64 (IntKind.u64.wrap (a0))] ?_; (with_reducible refine (r1Of.calls k (IntKind.u64.wrap (a0)) t101 _ A2.out).mono ?_); rintro e w3 ⟨rfl, hb⟩; refine ⟨_, rfl, ?_⟩; replace HB := zBb HB hb))
 go_ret
 exact ⟨zQ, zT⟩
def r9X.f  : Option (List Int) := some (([0, 1] : List Int))
theorem r9X.calls  (r : List Int) (w : World) (h : r9X.f  = some r) :
  Calls Try.prog 87 #[] w fun e w' => ∃ v0_ : Value, e = .returned (v0_) ∧ Kd.R (Kd.int .i64) 3 w' w.heap.size (fun _ => True) v0_ r ∧ Below w.heap.size w w' := by
 have HB := zm (Below.refl w.heap.size w)
 have H := h; clear h; unfold r9X.f at H
 obtain ⟨y101, Ny101⟩ := zA ((([0, 1] : List Int)) : List Int); rw [← Ny101.out] at H
 obtain rfl := Option.some.inj H
 go_enter Try.func87, Try.ntmps87
 go_wp2_with (first | ((with_reducible refine gate_dst (N := 1) rfl ?_); refine Kd.R_lit (Kd.int .i64) _ 3 ?hg (N := 1) ?hd (xs := ([0, 1] : List Int)) (inner := [.int .i64 0, .int .i64 1]) (ok := fun _ => True) (okp := fun _ => True) ?hr ?hp (fun _ hk => hk) trivial (Below.refl _ _) (Nat.le_refl _) (by simp) ?_; (case hd => rfl); (case hg => rfl); (case hr => go_simp <;> rfl); (case hp => exact (Reps.one (show Kd.M (Kd.int .i64) _ _ _ 0 [.int .i64 0] from rfl) (Reps.one (show Kd.M (Kd.int .i64) _ _ _ 1 [.int .i64 1] from rfl) (Reps.none _ _)))); intro v102 w1 ho2 hb hg_ hnew_; clear hg_ hnew_; (first | rw [← Ny101.out] at ho2 | (simp only [Int.reduceToNat] at ho2; rw [← Ny101.out] at ho2)); have HO103 := zm (Kd.R_lower ho2 (zS HB)); replace HB := zBb HB hb; clear hb ho2))
 go_ret
 exact ⟨_, zQ, zR HO103.out, zT⟩
def r9Gcd.l0 : Nat → Int → List Int → List Int → Option (List Int)
 | 0, _, _, _ => none
 | k + 1, x0, x1, x2 => if (x2.length : Int) > 0 then ((r9Mod.f k x0 x1 x2).bind fun t101 => (r9Gcd.l0 k x0 x2 t101)) else ((r9Monic.f k x0 x1).bind fun t104 => (some t104))
def r9Gcd.f (k : Nat) (a0 : Int) (l1 : List Int) (l2 : List Int) : Option (List Int) := r9Gcd.l0 k a0 l1 l2
theorem r9Gcd.mono_l : ∀ k, (∀ y0 y1 y2, LeO (r9Gcd.l0 k y0 y1 y2) (r9Gcd.l0 (k + 1) y0 y1 y2))
 | 0 => fun _ _ _ r h => by simp [r9Gcd.l0] at h
 | k + 1 => by
  have ih0 := r9Gcd.mono_l k
  intro y0 y1 y2
  unfold r9Gcd.l0
  with_reducible repeat' first | exact ih0 _ _ _ | exact r9Mod.mono _ _ _ _ | exact r9Monic.mono _ _ _ | exact LeO.refl _ | exact LeO.none _ | refine LeO.ite ?_ ?_ | refine LeO.bind ?_ (fun _ => ?_)
theorem r9Gcd.mono : ∀ a0 a1 a2 k, LeO (r9Gcd.f k a0 a1 a2) (r9Gcd.f (k + 1) a0 a1 a2) := by
 intro a0 a1 a2 k
 have ih0 := r9Gcd.mono_l k
 unfold r9Gcd.f
 with_reducible repeat' first | exact ih0 _ _ _ | exact r9Mod.mono _ _ _ _ | exact r9Monic.mono _ _ _ | exact LeO.refl _ | exact LeO.none _ | refine LeO.ite ?_ ?_ | refine LeO.bind ?_ (fun _ => ?_)
theorem r9Gcd.calls (k : Nat) (a0 : Int) (P1_ : Nat → Prop) (A1 : Option Addr) (c1 : Nat) (l1 : List Int) (P2_ : Nat → Prop) (A2 : Option Addr) (c2 : Nat) (l2 : List Int) (r : List Int) (w : World) (hs1 : Kd.V (Kd.int .i64) 3 w w.heap.size (fun k_ => P1_ k_) (.slice A1 l1.length c1) l1) (hs2 : Kd.V (Kd.int .i64) 3 w w.heap.size (fun k_ => P2_ k_) (.slice A2 l2.length c2) l2) (h : r9Gcd.f k a0 l1 l2 = some r) :
  Calls Try.prog 89 #[.int .i64 a0, .slice A1 l1.length c1, .slice A2 l2.length c2] w fun e w' => ∃ v0_ : Value, e = .returned (v0_) ∧ Kd.V (Kd.int .i64) 3 w' w.heap.size (fun k_ => ((P1_ k_ ∨ P2_ k_) ∨ w.heap.size ≤ k_)) v0_ r ∧ Below w.heap.size w w' := by
 have HO1 := zm (show Kd.V (Kd.int .i64) 3 w w.heap.size (fun k_ => ((P1_ k_ ∨ P2_ k_) ∨ w.heap.size ≤ k_)) (.slice A1 l1.length c1) l1 from Kd.V_mono hs1 (fun k_ hk => .inl (.inl hk)))
 have HO2 := zm (show Kd.V (Kd.int .i64) 3 w w.heap.size (fun k_ => ((P1_ k_ ∨ P2_ k_) ∨ w.heap.size ≤ k_)) (.slice A2 l2.length c2) l2 from Kd.V_mono hs2 (fun k_ hk => .inl (.inr hk)))
 have HB := zm (Below.refl w.heap.size w)
 have H := h; clear h; unfold r9Gcd.f at H
 have H' := zm H
 clear H
 go_enter Try.func89, Try.ntmps89
 go_wp2
 go_loopg [1, 2] k (fun kq v1 v2 w' => ∃ (x1_1 : List Int) (x2_1 : List Int), Aside0 (r9Gcd.l0 kq a0 x1_1 x2_1 = some r) ∧ Aside0 (kq ≤ k) ∧ Aside0 (Kd.V (Kd.int .i64) 3 w' w.heap.size (fun k_ => ((P1_ k_ ∨ P2_ k_) ∨ w.heap.size ≤ k_)) v1 x1_1) ∧ Aside0 (Kd.V (Kd.int .i64) 3 w' w.heap.size (fun k_ => ((P1_ k_ ∨ P2_ k_) ∨ w.heap.size ≤ k_)) v2 x2_1) ∧ Aside0 (Below w.heap.size w w'))
 case atStart => exact ⟨(l1), (l2), H', ⟨Nat.le_refl _⟩, ⟨zV HO1.out⟩, ⟨zV HO2.out⟩, ⟨zT⟩⟩
 case round =>
  clear H'
  obtain ⟨x1_1, x2_1, HA, HK1, HO_1, HO_2, HB⟩ := hrel
  cases gk with
  | zero => exact absurd HA.out (by simp [r9Gcd.l0])
  | succ k1 =>
   have H := HA.out
   clear HA
   simp only [r9Gcd.l0] at H
   by_cases c4 : (x2_1.length : Int) > 0
   rotate_left
   ·rw [if_neg c4] at H
    have c4b0 : decide (0 < (x2_1.length : Int)) = false := decide_eq_false c4
    have c4b1 : decide (0 < x2_1.length) = false := decide_eq_false (by omega)
    clear c4
    obtain ⟨t104, A9, H⟩ := zO H
    obtain rfl := Option.some.inj H
    obtain ⟨Ao10, co10, eo10⟩ := Kd.V_slice HO_2.out
    subst eo10
    obtain ⟨Ao11, co11, eo11⟩ := Kd.V_slice HO_1.out
    subst eo11
    go_wp2_with (first | ((with_reducible refine gate_callee (f := 109) rfl ?_); refine zG (some 17) Try.func109 #[.int .i64 a0, .slice Ao11 x1_1.length co11] ?_; (with_reducible refine (r9Monic.calls k1 a0 _ _ x1_1 t104 _ (zC ((Kd.V_reads' HO_1.out).2.2)) ((Kd.V_reads' HO_1.out).2.1) A9.out).mono ?_); rintro e w12 ⟨v105, rfl, ho0, hb⟩; refine ⟨_, rfl, ?_⟩; replace HO_1 := zVb HO_1 hb; replace HO_2 := zVb HO_2 hb; have HO106 := zWV (fun k_ => ((P1_ k_ ∨ P2_ k_) ∨ w.heap.size ≤ k_)) ho0 HB (fun k_ hk_ => (.inr (Nat.le_trans (zS HB) hk_))); replace HB := zBb HB hb))
    go_ret
    exact ⟨_, zQ, zV HO106.out, zT⟩
   rw [if_pos c4] at H
   have c4b0 : decide (0 < (x2_1.length : Int)) = true := decide_eq_true c4
   have c4b1 : decide (0 < x2_1.length) = true := decide_eq_true (by omega)
   clear c4
   obtain ⟨t101, A5, H⟩ := zO H
   have H' := zm H
   clear H
   obtain ⟨Ao6, co6, eo6⟩ := Kd.V_slice HO_2.out
   subst eo6
   obtain ⟨Ao7, co7, eo7⟩ := Kd.V_slice HO_1.out
   subst eo7
   go_wp2_with (first | ((with_reducible refine gate_callee (f := 86) rfl ?_); refine zG (some 14) Try.func86 #[.int .i64 a0, .slice Ao7 x1_1.length co7, .slice Ao6 x2_1.length co6] ?_; (with_reducible refine (r9Mod.calls k1 a0 _ _ x1_1 _ _ x2_1 t101 _ (zC ((Kd.V_reads' HO_1.out).2.2)) ((Kd.V_reads' HO_1.out).2.1) (zC ((Kd.V_reads' HO_2.out).2.2)) ((Kd.V_reads' HO_2.out).2.1) A5.out).mono ?_); rintro e w8 ⟨v102, rfl, ho0, hb⟩; refine ⟨_, rfl, ?_⟩; replace HO_1 := zVb HO_1 hb; replace HO_2 := zVb HO_2 hb; have HO103 := zWV (fun k_ => ((P1_ k_ ∨ P2_ k_) ∨ w.heap.size ≤ k_)) ho0 HB (fun k_ hk_ => (.inr (Nat.le_trans (zS HB) hk_))); replace HB := zBb HB hb))
   go_roundg k1
   case measure => have := HK1.out; omega
   case rel => exact ⟨(x2_1), (t101), H', ⟨by have := HK1.out; omega⟩, ⟨zV HO_2.out⟩, ⟨zV HO103.out⟩, ⟨zT⟩⟩
def r9IsIrreducible.l0 : Nat → Int → List Int → List Int → Int → Option (Bool)
 | 0, _, _, _, _ => none
 | k + 1, x0, x1, x5, x6 => if (wrap64 (2 * x6)) ≤ (wrap64 ((x1.length : Int) - 1)) then ((r1FromInt.f k x0).bind fun t107 => ((r9PowMod.f k x0 x5 t107 x1).bind fun t108 => ((r9X.f).bind fun t111 => ((r9Sub.f k x0 t108 t111).bind fun t114 => ((r9Gcd.f k x0 t114 x1).bind fun t117 => (if (t117.length : Int) = 1 then (r9IsIrreducible.l0 k x0 x1 t108 (wrap64 (x6 + 1))) else (some false))))))) else (some true)
def r9IsIrreducible.f (k : Nat) (a0 : Int) (l1 : List Int) : Option (Bool) := if (l1.length : Int) < 2 then (some false) else ((r9X.f).bind fun t101 => ((r9Mod.f k a0 t101 l1).bind fun t104 => (r9IsIrreducible.l0 k a0 l1 t104 1)))
theorem r9IsIrreducible.mono_l : ∀ k, (∀ y0 y1 y2 y3, LeO (r9IsIrreducible.l0 k y0 y1 y2 y3) (r9IsIrreducible.l0 (k + 1) y0 y1 y2 y3))
 | 0 => fun _ _ _ _ r h => by simp [r9IsIrreducible.l0] at h
 | k + 1 => by
  have ih0 := r9IsIrreducible.mono_l k
  intro y0 y1 y2 y3
  unfold r9IsIrreducible.l0
  with_reducible repeat' first | exact ih0 _ _ _ _ | exact r1FromInt.mono _ _ | exact r9Gcd.mono _ _ _ _ | exact r9Mod.mono _ _ _ _ | exact r9PowMod.mono _ _ _ _ _ | exact r9Sub.mono _ _ _ _ | exact LeO.refl _ | exact LeO.none _ | refine LeO.ite ?_ ?_ | refine LeO.bind ?_ (fun _ => ?_)
theorem r9IsIrreducible.mono : ∀ a0 a1 k, LeO (r9IsIrreducible.f k a0 a1) (r9IsIrreducible.f (k + 1) a0 a1) := by
 intro a0 a1 k
 have ih0 := r9IsIrreducible.mono_l k
 unfold r9IsIrreducible.f
 with_reducible repeat' first | exact ih0 _ _ _ _ | exact r1FromInt.mono _ _ | exact r9Gcd.mono _ _ _ _ | exact r9Mod.mono _ _ _ _ | exact r9PowMod.mono _ _ _ _ _ | exact r9Sub.mono _ _ _ _ | exact LeO.refl _ | exact LeO.none _ | refine LeO.ite ?_ ?_ | refine LeO.bind ?_ (fun _ => ?_)
theorem r9IsIrreducible.calls (k : Nat) (a0 : Int) (A1 : Option Addr) (c1 : Nat) (l1 : List Int) (r : Bool) (w : World) (hr1 : Kd.C (Kd.int .i64) w A1 l1.length l1) (hc1 : l1.length ≤ c1) (h : r9IsIrreducible.f k a0 l1 = some r) :
  Calls Try.prog 48 #[.int .i64 a0, .slice A1 l1.length c1] w fun e w' => e = .returned (.bool r) ∧ Below w.heap.size w w' := by
 have HR1 := zm hr1
 have HC1 := zm hc1
 clear hr1 hc1
 have HB := zm (Below.refl w.heap.size w)
 have H := h; clear h; unfold r9IsIrreducible.f at H
 by_cases c3 : (l1.length : Int) < 2
 ·rw [if_pos c3] at H
  have c3b0 : decide ((l1.length : Int) < 2) = true := decide_eq_true c3
  have c3b1 : decide (l1.length < 2) = true := decide_eq_true (by omega)
  clear c3
  obtain rfl := Option.some.inj H
  go_enter Try.func48, Try.ntmps48
  go_wp2
  go_ret
  exact ⟨zQ, zT⟩
 rw [if_neg c3] at H
 have c3b0 : decide ((l1.length : Int) < 2) = false := decide_eq_false c3
 have c3b1 : decide (l1.length < 2) = false := decide_eq_false (by omega)
 clear c3
 obtain ⟨t101, A4, H⟩ := zO H
 obtain ⟨t104, A5, H⟩ := zO H
 have H' := zm H
 clear H
 go_enter Try.func48, Try.ntmps48
 go_wp2_with (first | ((with_reducible refine gate_callee (f := 87) rfl ?_); refine zG (some 11) Try.func87 #[] ?_; (with_reducible refine (r9X.calls  t101 _ A4.out).mono ?_); rintro e w6 ⟨v102, rfl, ho0, hb⟩; refine ⟨_, rfl, ?_⟩; have HO103 := zm (Kd.R_lower ho0 (zS HB)); replace HB := zBb HB hb; obtain ⟨Ao7, co7, eo7⟩ := Kd.R_slice HO103.out; subst eo7) | ((with_reducible refine gate_callee (f := 86) rfl ?_); refine zG (some 13) Try.func86 #[.int .i64 a0, .slice Ao7 t101.length co7, .slice A1 l1.length c1] ?_; (with_reducible refine (r9Mod.calls k a0 _ _ t101 _ _ l1 t104 _ (zC ((Kd.R_reads' HO103.out).2.2)) ((Kd.R_reads' HO103.out).2.1) (zC (Kd.C_below HR1.out HB.out)) HC1.out A5.out).mono ?_); rintro e w8 ⟨v105, rfl, ho0, hb⟩; refine ⟨_, rfl, ?_⟩; have HO106 := zWV (fun k_ => some k_ ≠ (.slice Ao7 t101.length co7 : Value).ownBlock) ho0 HB (fun k_ hk_ => (Kd.fresh' (Kd.R_lt (zR HO103.out)) k_ hk_)); replace HO103 := zRb HO103 hb; replace HB := zBb HB hb))
 go_loopg [5, 6] k (fun kq v5 v6 w' => ∃ (x5_1 : List Int) (x6_1 : Int), v6 = .int .i64 x6_1 ∧ Aside0 (r9IsIrreducible.l0 kq a0 l1 x5_1 x6_1 = some r) ∧ Aside0 (kq ≤ k) ∧ Aside0 (Kd.V (Kd.int .i64) 3 w' w.heap.size (fun _ => True) v5 x5_1) ∧ Aside0 (Below w.heap.size w w'))
 case atStart => exact ⟨(t104), (1), zX, H', ⟨Nat.le_refl _⟩, ⟨zV (Kd.V_mono HO106.out (fun _ hk => trivial))⟩, ⟨zT⟩⟩
 case round =>
  clear H'
  obtain ⟨x5_1, x6_1, rfl, HA, HK1, HO_5, HB⟩ := hrel
  cases gk with
  | zero => exact absurd HA.out (by simp [r9IsIrreducible.l0])
  | succ k1 =>
   have H := HA.out
   clear HA
   simp only [r9IsIrreducible.l0] at H
   by_cases c9 : (wrap64 (2 * x6_1)) ≤ (wrap64 ((l1.length : Int) - 1))
   rotate_left
   ·rw [if_neg c9] at H
    have c9b0 := decide_eq_false c9; clear c9
    obtain rfl := Option.some.inj H
    go_wp2
    go_ret
    exact ⟨zQ, zT⟩
   rw [if_pos c9] at H
   have c9b0 := decide_eq_true c9; clear c9
   obtain ⟨t107, A10, H⟩ := zO H
   obtain ⟨t108, A11, H⟩ := zO H
   obtain ⟨t111, A12, H⟩ := zO H
   obtain ⟨t114, A13, H⟩ := zO H
   obtain ⟨t117, A14, H⟩ := zO H
   by_cases c15 : (t117.length : Int) = 1
   rotate_left
   ·rw [if_neg c15] at H
    obtain ⟨c15b0, c15b1⟩ := zU c15
    obtain rfl := Option.some.inj H
    go_wp2_with (first | ((with_reducible refine gate_callee (f := 35) rfl ?_); refine zG (some 25) Try.func35 #[.int .i64 a0] ?_; (with_reducible refine (r1FromInt.calls k1 a0 t107 _ A10.out).mono ?_); rintro e w26 ⟨rfl, hb⟩; refine ⟨_, rfl, ?_⟩; replace HO_5 := zVb HO_5 hb; replace HB := zBb HB hb; obtain ⟨Ao27, co27, eo27⟩ := Kd.V_slice HO_5.out; subst eo27) | ((with_reducible refine gate_callee (f := 88) rfl ?_); refine zG (some 27) Try.func88 #[.int .i64 a0, .slice Ao27 x5_1.length co27, .string t107, .slice A1 l1.length c1] ?_; (with_reducible refine (r9PowMod.calls k1 a0 _ _ x5_1 t107 _ _ l1 t108 _ (zC ((Kd.V_reads' HO_5.out).2.2)) ((Kd.V_reads' HO_5.out).2.1) (zC (Kd.C_below HR1.out HB.out)) HC1.out A11.out).mono ?_); rintro e w28 ⟨v109, rfl, ho0, hb⟩; refine ⟨_, rfl, ?_⟩; replace HO_5 := zVb HO_5 hb; have HO110 := zWV (fun k_ => True) ho0 HB (fun k_ hk_ => trivial); replace HB := zBb HB hb) | ((with_reducible refine gate_callee (f := 87) rfl ?_); refine zG (some 31) Try.func87 #[] ?_; (with_reducible refine (r9X.calls  t111 _ A12.out).mono ?_); rintro e w29 ⟨v112, rfl, ho0, hb⟩; refine ⟨_, rfl, ?_⟩; replace HO_5 := zm (Kd.V_elder' (zV HO_5.out) (Kd.R_base ho0) hb); replace HO110 := zm (Kd.V_elder' (zV HO110.out) (Kd.R_base ho0) hb); have HO113 := zm (Kd.R_lower ho0 (zS HB)); replace HB := zBb HB hb; obtain ⟨Ao30, co30, eo30⟩ := Kd.V_slice HO110.out; subst eo30; obtain ⟨Ao31, co31, eo31⟩ := Kd.R_slice HO113.out; subst eo31) | ((with_reducible refine gate_callee (f := 65) rfl ?_); refine zG (some 32) Try.func65 #[.int .i64 a0, .slice Ao30 t108.length co30, .slice Ao31 t111.length co31] ?_; (with_reducible refine (r9Sub.calls k1 a0 _ _ t108 _ _ t111 t114 _ (zC ((Kd.V_reads' HO110.out).2.2)) ((Kd.V_reads' HO110.out).2.1) (zC ((Kd.R_reads' HO113.out).2.2)) ((Kd.R_reads' HO113.out).2.1) A13.out).mono ?_); rintro e w32 ⟨v115, rfl, ho0, hb⟩; refine ⟨_, rfl, ?_⟩; replace HO_5 := zVb HO_5 hb; replace HO110 := zVb HO110 hb; have HO116 := zWV (fun k_ => some k_ ≠ (.slice Ao31 t111.length co31 : Value).ownBlock) ho0 HB (fun k_ hk_ => (Kd.fresh' (Kd.R_lt (zR HO113.out)) k_ hk_)); replace HO113 := zRb HO113 hb; replace HB := zBb HB hb; obtain ⟨Ao33, co33, eo33⟩ := Kd.V_slice HO116.out; subst eo33) | ((with_reducible refine gate_callee (f := 89) rfl ?_); refine zG (some 34) Try.func89 #[.int .i64 a0, .slice Ao33 t114.length co33, .slice A1 l1.length c1] ?_; (with_reducible refine (r9Gcd.calls k1 a0 (fun k_ => some k_ ≠ (.slice Ao31 t111.length co31 : Value).ownBlock) _ _ t114 (fun k_ => k_ < w.heap.size) _ _ l1 t117 _ ?side1 ?side2 A14.out).mono ?_); (case side1 => exact HO116.out); (case side2 => exact Kd.V_mk HC1.out (Kd.F_below (Kd.C_F (Kd.heap_int .i64) HR1.out) (zT))); rintro e w34 ⟨v118, rfl, ho0, hb⟩; refine ⟨_, rfl, ?_⟩; replace HO_5 := zVb HO_5 hb; replace HO110 := zVb HO110 hb; replace HO116 := zVb HO116 hb; have HO119 := zWV (fun k_ => some k_ ≠ (.slice Ao31 t111.length co31 : Value).ownBlock) ho0 HB (fun k_ hk_ => Or.elim hk_ (fun hs_ => Or.elim hs_ (fun hs_ => hs_) (fun hs_ => fun e_ => Nat.not_le.2 hs_ (Kd.R_base HO113.out k_ e_.symm))) (fun hn_ => (Kd.fresh' (Kd.R_lt (zR HO113.out)) k_ hn_))); replace HO113 := zRb HO113 hb; replace HB := zBb HB hb; obtain ⟨Ao35, co35, eo35⟩ := Kd.V_slice HO119.out; subst eo35))
    go_ret
    exact ⟨zQ, zT⟩
   rw [if_pos c15] at H
   obtain ⟨c15b0, c15b1⟩ := zE c15; clear c15
   have H' := zm H
   clear H
   go_wp2_with (first | ((with_reducible refine gate_callee (f := 35) rfl ?_); refine zG (some 25) Try.func35 #[.int .i64 a0] ?_; (with_reducible refine (r1FromInt.calls k1 a0 t107 _ A10.out).mono ?_); rintro e w16 ⟨rfl, hb⟩; refine ⟨_, rfl, ?_⟩; replace HO_5 := zVb HO_5 hb; replace HB := zBb HB hb; obtain ⟨Ao17, co17, eo17⟩ := Kd.V_slice HO_5.out; subst eo17) | ((with_reducible refine gate_callee (f := 88) rfl ?_); refine zG (some 27) Try.func88 #[.int .i64 a0, .slice Ao17 x5_1.length co17, .string t107, .slice A1 l1.length c1] ?_; (with_reducible refine (r9PowMod.calls k1 a0 _ _ x5_1 t107 _ _ l1 t108 _ (zC ((Kd.V_reads' HO_5.out).2.2)) ((Kd.V_reads' HO_5.out).2.1) (zC (Kd.C_below HR1.out HB.out)) HC1.out A11.out).mono ?_); rintro e w18 ⟨v109, rfl, ho0, hb⟩; refine ⟨_, rfl, ?_⟩; replace HO_5 := zVb HO_5 hb; have HO110 := zWV (fun k_ => True) ho0 HB (fun k_ hk_ => trivial); replace HB := zBb HB hb) | ((with_reducible refine gate_callee (f := 87) rfl ?_); refine zG (some 31) Try.func87 #[] ?_; (with_reducible refine (r9X.calls  t111 _ A12.out).mono ?_); rintro e w19 ⟨v112, rfl, ho0, hb⟩; refine ⟨_, rfl, ?_⟩; replace HO_5 := zm (Kd.V_elder' (zV HO_5.out) (Kd.R_base ho0) hb); replace HO110 := zm (Kd.V_elder' (zV HO110.out) (Kd.R_base ho0) hb); have HO113 := zm (Kd.R_lower ho0 (zS HB)); replace HB := zBb HB hb; obtain ⟨Ao20, co20, eo20⟩ := Kd.V_slice HO110.out; subst eo20; obtain ⟨Ao21, co21, eo21⟩ := Kd.R_slice HO113.out; subst eo21) | ((with_reducible refine gate_callee (f := 65) rfl ?_); refine zG (some 32) Try.func65 #[.int .i64 a0, .slice Ao20 t108.length co20, .slice Ao21 t111.length co21] ?_; (with_reducible refine (r9Sub.calls k1 a0 _ _ t108 _ _ t111 t114 _ (zC ((Kd.V_reads' HO110.out).2.2)) ((Kd.V_reads' HO110.out).2.1) (zC ((Kd.R_reads' HO113.out).2.2)) ((Kd.R_reads' HO113.out).2.1) A13.out).mono ?_); rintro e w22 ⟨v115, rfl, ho0, hb⟩; refine ⟨_, rfl, ?_⟩; replace HO_5 := zVb HO_5 hb; replace HO110 := zVb HO110 hb; have HO116 := zWV (fun k_ => some k_ ≠ (.slice Ao21 t111.length co21 : Value).ownBlock) ho0 HB (fun k_ hk_ => (Kd.fresh' (Kd.R_lt (zR HO113.out)) k_ hk_)); replace HO113 := zRb HO113 hb; replace HB := zBb HB hb; obtain ⟨Ao23, co23, eo23⟩ := Kd.V_slice HO116.out; subst eo23) | ((with_reducible refine gate_callee (f := 89) rfl ?_); refine zG (some 34) Try.func89 #[.int .i64 a0, .slice Ao23 t114.length co23, .slice A1 l1.length c1] ?_; (with_reducible refine (r9Gcd.calls k1 a0 (fun k_ => some k_ ≠ (.slice Ao21 t111.length co21 : Value).ownBlock) _ _ t114 (fun k_ => k_ < w.heap.size) _ _ l1 t117 _ ?side1 ?side2 A14.out).mono ?_); (case side1 => exact HO116.out); (case side2 => exact Kd.V_mk HC1.out (Kd.F_below (Kd.C_F (Kd.heap_int .i64) HR1.out) (zT))); rintro e w24 ⟨v118, rfl, ho0, hb⟩; refine ⟨_, rfl, ?_⟩; replace HO_5 := zVb HO_5 hb; replace HO110 := zVb HO110 hb; replace HO116 := zVb HO116 hb; have HO119 := zWV (fun k_ => some k_ ≠ (.slice Ao21 t111.length co21 : Value).ownBlock) ho0 HB (fun k_ hk_ => Or.elim hk_ (fun hs_ => Or.elim hs_ (fun hs_ => hs_) (fun hs_ => fun e_ => Nat.not_le.2 hs_ (Kd.R_base HO113.out k_ e_.symm))) (fun hn_ => (Kd.fresh' (Kd.R_lt (zR HO113.out)) k_ hn_))); replace HO113 := zRb HO113 hb; replace HB := zBb HB hb; obtain ⟨Ao25, co25, eo25⟩ := Kd.V_slice HO119.out; subst eo25))
   go_roundg k1
   case measure => have := HK1.out; omega
   case rel => exact ⟨(t108), (wrap64 (x6_1 + 1)), zX, H', ⟨by have := HK1.out; omega⟩, ⟨zV (Kd.V_mono HO110.out (fun _ hk => trivial))⟩, ⟨zT⟩⟩
def r4IsPrime.l0 : Nat → Int → Int → Option (Bool)
 | 0, _, _ => none
 | k + 1, x0, x3 => if (wrap64 (x3 * x3)) ≤ x0 then (if x3 = 0 then (none) else (if (Int.tmod x0 x3) = 0 then (some false) else (r4IsPrime.l0 k x0 (wrap64 (x3 + 1))))) else (some (decide (x0 > 1)))
def r4IsPrime.f (k : Nat) (a0 : Int) : Option (Bool) := r4IsPrime.l0 k a0 2
theorem r4IsPrime.mono_l : ∀ k, (∀ y0 y1, LeO (r4IsPrime.l0 k y0 y1) (r4IsPrime.l0 (k + 1) y0 y1))
 | 0 => fun _ _ r h => by simp [r4IsPrime.l0] at h
 | k + 1 => by
  have ih0 := r4IsPrime.mono_l k
  intro y0 y1
  unfold r4IsPrime.l0
  with_reducible repeat' first | exact ih0 _ _ | exact LeO.refl _ | exact LeO.none _ | refine LeO.ite ?_ ?_ | refine LeO.bind ?_ (fun _ => ?_)
theorem r4IsPrime.mono : ∀ a0 k, LeO (r4IsPrime.f k a0) (r4IsPrime.f (k + 1) a0) := by
 intro a0 k
 have ih0 := r4IsPrime.mono_l k
 unfold r4IsPrime.f
 with_reducible repeat' first | exact ih0 _ _ | exact LeO.refl _ | exact LeO.none _ | refine LeO.ite ?_ ?_ | refine LeO.bind ?_ (fun _ => ?_)
theorem r4IsPrime.calls (k : Nat) (a0 : Int) (r : Bool) (w : World) (h : r4IsPrime.f k a0 = some r) :
  Calls Try.prog 44 #[.int .i64 a0] w fun e w' => e = .returned (.bool r) ∧ Drawn0 w w' := by
 have H := h; clear h; unfold r4IsPrime.f at H
 have H' := zm H
 clear H
 go_enter Try.func44, Try.ntmps44
 go_wp2
 go_loopg [3] k (fun kq v3 w' => ∃ (x3_1 : Int), v3 = .int .i64 x3_1 ∧ Aside0 (r4IsPrime.l0 kq a0 x3_1 = some r) ∧ Aside0 (kq ≤ k) ∧ Drawn0 w w')
 case atStart => exact ⟨(2), zX, H', ⟨Nat.le_refl _⟩, by repeat (first | exact Drawn0.refl _ | apply Drawn0.step)⟩
 case round =>
  clear H'
  obtain ⟨x3_1, rfl, HA, HK1, ⟨m1, rfl⟩⟩ := hrel
  cases gk with
  | zero => exact absurd HA.out (by simp [r4IsPrime.l0])
  | succ k1 =>
   have H := HA.out
   clear HA
   simp only [r4IsPrime.l0] at H
   by_cases c2 : (wrap64 (x3_1 * x3_1)) ≤ a0
   rotate_left
   ·rw [if_neg c2] at H
    have c2b0 := decide_eq_false c2; clear c2
    obtain rfl := Option.some.inj H
    go_wp2
    go_ret
    exact ⟨by first | rfl | (simp; done) | (simp [*]; done), by repeat (first | exact Drawn0.refl _ | apply Drawn0.step)⟩
   rw [if_pos c2] at H
   have c2b0 := decide_eq_true c2; clear c2
   by_cases c3 : x3_1 = 0
   ·rw [if_pos c3] at H
    exact absurd H (by simp)
   rw [if_neg c3] at H
   obtain ⟨c3b0, c3b1⟩ := zU c3
   by_cases c4 : (Int.tmod a0 x3_1) = 0
   ·rw [if_pos c4] at H
    obtain ⟨c4b0, c4b1⟩ := zE c4; clear c4
    obtain rfl := Option.some.inj H
    go_wp2
    go_ret
    exact ⟨by first | rfl | (simp; done) | (simp [*]; done), by repeat (first | exact Drawn0.refl _ | apply Drawn0.step)⟩
   rw [if_neg c4] at H
   obtain ⟨c4b0, c4b1⟩ := zU c4
   have H' := zm H
   clear H
   go_wp2
   go_roundg k1
   case measure => have := HK1.out; omega
   case rel => exact ⟨(wrap64 (x3_1 + 1)), zX, H', ⟨by have := HK1.out; omega⟩, by repeat (first | exact Drawn0.refl _ | apply Drawn0.step)⟩
def r9IsPrime.f (k : Nat) (a0 : Int) : Option (Bool) := if a0 ≥ 2 then (if a0 ≤ 65521 then ((r4IsPrime.f k a0).bind fun t101 => (some t101)) else (some false)) else (some false)
theorem r9IsPrime.mono : ∀ a0 k, LeO (r9IsPrime.f k a0) (r9IsPrime.f (k + 1) a0) := by
 intro a0 k
 unfold r9IsPrime.f
 with_reducible repeat' first | exact r4IsPrime.mono _ _ | exact LeO.refl _ | exact LeO.none _ | refine LeO.ite ?_ ?_ | refine LeO.bind ?_ (fun _ => ?_)
theorem r9IsPrime.calls (k : Nat) (a0 : Int) (r : Bool) (w : World) (h : r9IsPrime.f k a0 = some r) :
  Calls Try.prog 10 #[.int .i64 a0] w fun e w' => e = .returned (.bool r) ∧ Drawn0 w w' := by
 have H := h; clear h; unfold r9IsPrime.f at H
 by_cases c2 : a0 ≥ 2
 rotate_left
 ·rw [if_neg c2] at H
  have c2b0 := decide_eq_false c2; clear c2
  obtain rfl := Option.some.inj H
  go_enter Try.func10, Try.ntmps10
  go_wp2
  go_ret
  exact ⟨by first | rfl | (simp; done) | (simp [*]; done), by repeat (first | exact Drawn0.refl _ | apply Drawn0.step)⟩
 rw [if_pos c2] at H
 have c2b0 := decide_eq_true c2; clear c2
 by_cases c3 : a0 ≤ 65521
 rotate_left
 ·rw [if_neg c3] at H
  have c3b0 := decide_eq_false c3; clear c3
  obtain rfl := Option.some.inj H
  go_enter Try.func10, Try.ntmps10
  go_wp2
  go_ret
  exact ⟨by first | rfl | (simp; done) | (simp [*]; done), by repeat (first | exact Drawn0.refl _ | apply Drawn0.step)⟩
 rw [if_pos c3] at H
 have c3b0 := decide_eq_true c3; clear c3
 obtain ⟨t101, A4, H⟩ := zO H
 obtain rfl := Option.some.inj H
 go_enter Try.func10, Try.ntmps10
 go_wp2_with (first | (go_at_call 44; (with_reducible refine (r4IsPrime.calls k a0 t101 _ A4.out).mono ?_); rintro e w' ⟨rfl, ⟨nd, rfl⟩⟩))
 go_ret
 exact ⟨by first | rfl | (simp; done) | (simp [*]; done), by repeat (first | exact Drawn0.refl _ | apply Drawn0.step)⟩
def r9Check.l0 : Nat → Int → List Int → Int → Option (Int)
 | 0, _, _, _ => none
 | k + 1, x0, x1, x5 => if x5 < (x1.length : Int) then (if 0 ≤ x5 then (if (rd x1 x5) < 0 then (some 1) else (if (rd x1 x5) ≥ x0 then (some 1) else (r9Check.l0 k x0 x1 (wrap64 (x5 + 1))))) else (none)) else (if (x1.length : Int) > 0 then (if 0 ≤ (wrap64 ((x1.length : Int) - 1)) then (if (wrap64 ((x1.length : Int) - 1)) < (x1.length : Int) then (if (rd x1 (wrap64 ((x1.length : Int) - 1))) = 0 then (some 1) else (some 0)) else (none)) else (none)) else (some 0))
def r9Check.f (k : Nat) (a0 : Int) (l1 : List Int) : Option (Int) := (r9IsPrime.f k a0).bind fun t101 => (if t101 = true then (if (l1.length : Int) > 65 then (some 4) else (r9Check.l0 k a0 l1 0)) else (some 7))
theorem r9Check.mono_l : ∀ k, (∀ y0 y1 y2, LeO (r9Check.l0 k y0 y1 y2) (r9Check.l0 (k + 1) y0 y1 y2))
 | 0 => fun _ _ _ r h => by simp [r9Check.l0] at h
 | k + 1 => by
  have ih0 := r9Check.mono_l k
  intro y0 y1 y2
  unfold r9Check.l0
  with_reducible repeat' first | exact ih0 _ _ _ | exact r9IsPrime.mono _ _ | exact LeO.refl _ | exact LeO.none _ | refine LeO.ite ?_ ?_ | refine LeO.bind ?_ (fun _ => ?_)
theorem r9Check.mono : ∀ a0 a1 k, LeO (r9Check.f k a0 a1) (r9Check.f (k + 1) a0 a1) := by
 intro a0 a1 k
 have ih0 := r9Check.mono_l k
 unfold r9Check.f
 with_reducible repeat' first | exact ih0 _ _ _ | exact r9IsPrime.mono _ _ | exact LeO.refl _ | exact LeO.none _ | refine LeO.ite ?_ ?_ | refine LeO.bind ?_ (fun _ => ?_)
theorem r9Check.calls (k : Nat) (a0 : Int) (A1 : Option Addr) (c1 : Nat) (l1 : List Int) (r : Int) (w : World) (hr1 : Kd.C (Kd.int .i64) w A1 l1.length l1) (hc1 : l1.length ≤ c1) (h : r9Check.f k a0 l1 = some r) :
  Calls Try.prog 62 #[.int .i64 a0, .slice A1 l1.length c1] w fun e w' => e = .returned (.int .i64 r) ∧ Drawn0 w w' := by
 have HR1 := zm hr1
 have HC1 := zm hc1
 clear hr1 hc1
 have H := h; clear h; unfold r9Check.f at H
 obtain ⟨t101, A3, H⟩ := zO H
 by_cases c4 : t101 = true
 rotate_left
 ·replace c4 := Bool.eq_false_iff.mpr c4
  subst c4
  rw [if_neg Bool.false_ne_true] at H
  obtain rfl := Option.some.inj H
  go_enter Try.func62, Try.ntmps62
  go_wp2_with (first | ((with_reducible refine gate_callee (f := 10) rfl ?_); refine zG (some 7) Try.func10 #[.int .i64 a0] ?_; (with_reducible refine (r9IsPrime.calls k a0 false _ A3.out).mono ?_); rintro e w' ⟨rfl, ⟨nd, rfl⟩⟩; refine ⟨_, rfl, ?_⟩))
  go_ret
  exact ⟨by first | rfl | (simp; done) | (simp [*]; done), by repeat (first | exact Drawn0.refl _ | apply Drawn0.step)⟩
 subst c4
 rw [if_pos rfl] at H
 by_cases c5 : (l1.length : Int) > 65
 ·rw [if_pos c5] at H
  have c5b0 : decide (65 < (l1.length : Int)) = true := decide_eq_true c5
  have c5b1 : decide (65 < l1.length) = true := decide_eq_true (by omega)
  clear c5
  obtain rfl := Option.some.inj H
  go_enter Try.func62, Try.ntmps62
  go_wp2_with (first | ((with_reducible refine gate_callee (f := 10) rfl ?_); refine zG (some 7) Try.func10 #[.int .i64 a0] ?_; (with_reducible refine (r9IsPrime.calls k a0 true _ A3.out).mono ?_); rintro e w' ⟨rfl, ⟨nd, rfl⟩⟩; refine ⟨_, rfl, ?_⟩))
  go_ret
  exact ⟨by first | rfl | (simp; done) | (simp [*]; done), by repeat (first | exact Drawn0.refl _ | apply Drawn0.step)⟩
 rw [if_neg c5] at H
 have c5b0 : decide (65 < (l1.length : Int)) = false := decide_eq_false c5
 have c5b1 : decide (65 < l1.length) = false := decide_eq_false (by omega)
 clear c5
 have H' := zm H
 clear H
 go_enter Try.func62, Try.ntmps62
 go_wp2_with (first | ((with_reducible refine gate_callee (f := 10) rfl ?_); refine zG (some 7) Try.func10 #[.int .i64 a0] ?_; (with_reducible refine (r9IsPrime.calls k a0 true _ A3.out).mono ?_); rintro e w' ⟨rfl, ⟨nd, rfl⟩⟩; refine ⟨_, rfl, ?_⟩))
 go_loopg [5] k (fun kq v5 w' => ∃ (x5_1 : Int), v5 = .int .i64 x5_1 ∧ Aside0 (r9Check.l0 kq a0 l1 x5_1 = some r) ∧ Aside0 (kq ≤ k) ∧ Drawn0 w w')
 case atStart => exact ⟨(0), zX, H', ⟨Nat.le_refl _⟩, by repeat (first | exact Drawn0.refl _ | apply Drawn0.step)⟩
 case round =>
  clear H'
  obtain ⟨x5_1, rfl, HA, HK1, ⟨m1, rfl⟩⟩ := hrel
  cases gk with
  | zero => exact absurd HA.out (by simp [r9Check.l0])
  | succ k1 =>
   have H := HA.out
   clear HA
   simp only [r9Check.l0] at H
   by_cases c6 : x5_1 < (l1.length : Int)
   ·rw [if_pos c6] at H
    have c6b0 := decide_eq_true c6; clear c6
    by_cases c7 : 0 ≤ x5_1
    rotate_left
    ·rw [if_neg c7] at H
     exact absurd H (by simp)
    rw [if_pos c7] at H
    have c7b0 := decide_eq_true c7; clear c7
    by_cases c8 : (rd l1 x5_1) < 0
    ·rw [if_pos c8] at H
     have c8b0 := decide_eq_true c8; clear c8
     obtain rfl := Option.some.inj H
     obtain ⟨p102, q102, ad102, e102, hx102_0⟩ := zI (HR1.out) (x5_1) zD zD
     cases e102
     go_wp2
     go_ret
     exact ⟨by first | rfl | (simp; done) | (simp [*]; done), by repeat (first | exact Drawn0.refl _ | apply Drawn0.step)⟩
    rw [if_neg c8] at H
    have c8b0 := decide_eq_false c8; clear c8
    by_cases c9 : (rd l1 x5_1) ≥ a0
    ·rw [if_pos c9] at H
     have c9b0 := decide_eq_true c9; clear c9
     obtain rfl := Option.some.inj H
     obtain ⟨p102, q102, ad102, e102, hx102_0⟩ := zI (HR1.out) (x5_1) zD zD
     cases e102
     obtain ⟨p103, q103, ad103, e103, hx103_0⟩ := zI (HR1.out) (x5_1) zD zD
     obtain rfl : ad102 = ad103 := (by injection e103)
     go_wp2
     go_ret
     exact ⟨by first | rfl | (simp; done) | (simp [*]; done), by repeat (first | exact Drawn0.refl _ | apply Drawn0.step)⟩
    rw [if_neg c9] at H
    have c9b0 := decide_eq_false c9; clear c9
    have H' := zm H
    clear H
    obtain ⟨p102, q102, ad102, e102, hx102_0⟩ := zI (HR1.out) (x5_1) zD zD
    cases e102
    obtain ⟨p103, q103, ad103, e103, hx103_0⟩ := zI (HR1.out) (x5_1) zD zD
    obtain rfl : ad102 = ad103 := (by injection e103)
    go_wp2
    go_roundg k1
    case measure => have := HK1.out; omega
    case rel => exact ⟨(wrap64 (x5_1 + 1)), zX, H', ⟨by have := HK1.out; omega⟩, by repeat (first | exact Drawn0.refl _ | apply Drawn0.step)⟩
   rw [if_neg c6] at H
   have c6b0 := decide_eq_false c6; clear c6
   by_cases c10 : (l1.length : Int) > 0
   rotate_left
   ·rw [if_neg c10] at H
    have c10b0 : decide (0 < (l1.length : Int)) = false := decide_eq_false c10
    have c10b1 : decide (0 < l1.length) = false := decide_eq_false (by omega)
    clear c10
    obtain rfl := Option.some.inj H
    go_wp2
    go_ret
    exact ⟨by first | rfl | (simp; done) | (simp [*]; done), by repeat (first | exact Drawn0.refl _ | apply Drawn0.step)⟩
   rw [if_pos c10] at H
   have c10b0 : decide (0 < (l1.length : Int)) = true := decide_eq_true c10
   have c10b1 : decide (0 < l1.length) = true := decide_eq_true (by omega)
   clear c10
   obtain ⟨ji11, hji11⟩ : ∃ j_ : Int, (wrap64 ((l1.length : Int) - 1)) = j_ := ⟨_, rfl⟩
   first | rw [hji11] at H | simp only [hji11] at H
   have hji11w : (IntKind.i64.wrap ((l1.length : Int) - 1)) = ji11 := (i64_w _).trans hji11
   by_cases c12 : 0 ≤ (ji11)
   rotate_left
   ·rw [if_neg c12] at H
    exact absurd H (by simp)
   rw [if_pos c12] at H
   have c12b0 := decide_eq_true c12; clear c12
   by_cases c13 : (ji11) < (l1.length : Int)
   rotate_left
   ·rw [if_neg c13] at H
    exact absurd H (by simp)
   rw [if_pos c13] at H
   have c13b0 := decide_eq_true c13; clear c13
   by_cases c14 : (rd l1 (ji11)) = 0
   rotate_left
   ·rw [if_neg c14] at H
    obtain ⟨c14b0, c14b1⟩ := zU c14
    obtain rfl := Option.some.inj H
    obtain ⟨p104, q104, ad104, e104, hx104_0⟩ := zI (HR1.out) ((ji11)) zD zD
    cases e104
    go_wp2
    go_ret
    exact ⟨by first | rfl | (simp; done) | (simp only [← hji11] <;> (first | rfl | simp)) | (simp [*]; done), by repeat (first | exact Drawn0.refl _ | apply Drawn0.step)⟩
   rw [if_pos c14] at H
   obtain ⟨c14b0, c14b1⟩ := zE c14; clear c14
   obtain rfl := Option.some.inj H
   obtain ⟨p104, q104, ad104, e104, hx104_0⟩ := zI (HR1.out) ((ji11)) zD zD
   cases e104
   go_wp2
   go_ret
   exact ⟨by first | rfl | (simp; done) | (simp only [← hji11] <;> (first | rfl | simp)) | (simp [*]; done), by repeat (first | exact Drawn0.refl _ | apply Drawn0.step)⟩
def r15Check.j0 : Nat → Bool → Int → List Int → Option (Int)
 | 0, _, _, _ => none
 | k + 1, x18, x102000, x102001 => if x18 = true then (some 1) else ((r9IsIrreducible.f k x102000 x102001).bind fun t104 => (if t104 = true then (some 0) else (some 8)))
def r15Check.f (k : Nat) (a0_0 : Int) (l0_1 : List Int) : Option (Int) := (r9Check.f k a0_0 l0_1).bind fun t102 => (if t102 = 0 then (if (l0_1.length : Int) > 17 then (some 4) else (if (l0_1.length : Int) < 2 then (r15Check.j0 k true a0_0 l0_1) else ((r9Lead.f l0_1).bind fun t103 => (r15Check.j0 k (t103 != 1) a0_0 l0_1)))) else (some t102))
theorem r15Check.mono_l : ∀ k, (∀ y0 y1 y2, LeO (r15Check.j0 k y0 y1 y2) (r15Check.j0 (k + 1) y0 y1 y2))
 | 0 => fun _ _ _ r h => by simp [r15Check.j0] at h
 | k + 1 => by
  have ih0 := r15Check.mono_l k
  intro y0 y1 y2
  unfold r15Check.j0
  with_reducible repeat' first | exact ih0 _ _ _ | exact r9Check.mono _ _ _ | exact r9IsIrreducible.mono _ _ _ | exact LeO.refl _ | exact LeO.none _ | refine LeO.ite ?_ ?_ | refine LeO.bind ?_ (fun _ => ?_)
theorem r15Check.mono : ∀ a0 a1 k, LeO (r15Check.f k a0 a1) (r15Check.f (k + 1) a0 a1) := by
 intro a0 a1 k
 have ih0 := r15Check.mono_l k
 unfold r15Check.f
 with_reducible repeat' first | exact ih0 _ _ _ | exact r9Check.mono _ _ _ | exact r9IsIrreducible.mono _ _ _ | exact LeO.refl _ | exact LeO.none _ | refine LeO.ite ?_ ?_ | refine LeO.bind ?_ (fun _ => ?_)
theorem r15Check.calls (k : Nat) (a0_0 : Int) (A0_1 : Option Addr) (c0_1 : Nat) (l0_1 : List Int) (r : Int) (w : World) (hr0_1 : Kd.C (Kd.int .i64) w A0_1 l0_1.length l0_1) (hc0_1 : l0_1.length ≤ c0_1) (h : r15Check.f k a0_0 l0_1 = some r) :
  Calls Try.prog 24 #[.agg #[.int .i64 a0_0, .slice A0_1 l0_1.length c0_1]] w fun e w' => e = .returned (.int .i64 r) ∧ Below w.heap.size w w' := by
 have hu33 := Try.underlying33
 have HR0_1 := zm hr0_1
 have HC0_1 := zm hc0_1
 clear hr0_1 hc0_1
 have HB := zm (Below.refl w.heap.size w)
 have H := h; clear h; unfold r15Check.f at H
 obtain ⟨t102, A2, H⟩ := zO H
 by_cases c3 : t102 = 0
 rotate_left
 ·rw [if_neg c3] at H
  obtain ⟨c3b0, c3b1⟩ := zU c3
  obtain rfl := Option.some.inj H
  go_enter Try.func24, Try.ntmps24
  go_wp2_with (first | ((with_reducible refine gate_dst (N := 1) rfl ?_); refine zb 1 #[.int .i64 a0_0, .slice A0_1 l0_1.length c0_1] 33 ?_; intro gb101 hg w21 hbox hb; have BK101 := zm (hbox); have GW101 := zg HB hg; have GE101 := GW101; replace HB := zBb HB hb; clear hb hbox hg; obtain ⟨hcz22_0, hcz22_1, hfz22_0, hfz22_1⟩ := zf2 BK101) | ((with_reducible refine gate_callee (f := 62) rfl ?_); refine zG (some 8) Try.func62 #[.int .i64 a0_0, .slice A0_1 l0_1.length c0_1] ?_; (with_reducible refine (r9Check.calls k a0_0 _ _ l0_1 t102 _ (zC (Kd.C_below HR0_1.out HB.out)) HC0_1.out A2.out).mono ?_); rintro e w' ⟨rfl, ⟨nd, rfl⟩⟩; refine ⟨_, rfl, ?_⟩))
  go_ret
  exact ⟨zQ, zT⟩
 rw [if_pos c3] at H
 obtain ⟨c3b0, c3b1⟩ := zE c3; clear c3
 by_cases c4 : (l0_1.length : Int) > 17
 ·rw [if_pos c4] at H
  have c4b0 : decide (17 < (l0_1.length : Int)) = true := decide_eq_true c4
  have c4b1 : decide (17 < l0_1.length) = true := decide_eq_true (by omega)
  clear c4
  obtain rfl := Option.some.inj H
  go_enter Try.func24, Try.ntmps24
  go_wp2_with (first | ((with_reducible refine gate_dst (N := 1) rfl ?_); refine zb 1 #[.int .i64 a0_0, .slice A0_1 l0_1.length c0_1] 33 ?_; intro gb101 hg w5 hbox hb; have BK101 := zm (hbox); have GW101 := zg HB hg; have GE101 := GW101; replace HB := zBb HB hb; clear hb hbox hg; obtain ⟨hcz6_0, hcz6_1, hfz6_0, hfz6_1⟩ := zf2 BK101) | ((with_reducible refine gate_callee (f := 62) rfl ?_); refine zG (some 8) Try.func62 #[.int .i64 a0_0, .slice A0_1 l0_1.length c0_1] ?_; (with_reducible refine (r9Check.calls k a0_0 _ _ l0_1 t102 _ (zC (Kd.C_below HR0_1.out HB.out)) HC0_1.out A2.out).mono ?_); rintro e w' ⟨rfl, ⟨nd, rfl⟩⟩; refine ⟨_, rfl, ?_⟩))
  go_ret
  exact ⟨zQ, zT⟩
 rw [if_neg c4] at H
 have c4b0 : decide (17 < (l0_1.length : Int)) = false := decide_eq_false c4
 have c4b1 : decide (17 < l0_1.length) = false := decide_eq_false (by omega)
 clear c4
 have HC7 := zm H
 clear H
 go_enter Try.func24, Try.ntmps24
 go_upto_region 6 with (first | ((with_reducible refine gate_dst (N := 1) rfl ?_); refine zb 1 #[.int .i64 a0_0, .slice A0_1 l0_1.length c0_1] 33 ?_; intro gb101 hg w8 hbox hb; have BK101 := zm (hbox); have GW101 := zg HB hg; have GE101 := GW101; replace HB := zBb HB hb; clear hb hbox hg; obtain ⟨hcz9_0, hcz9_1, hfz9_0, hfz9_1⟩ := zf2 BK101) | ((with_reducible refine gate_callee (f := 62) rfl ?_); refine zG (some 8) Try.func62 #[.int .i64 a0_0, .slice A0_1 l0_1.length c0_1] ?_; (with_reducible refine (r9Check.calls k a0_0 _ _ l0_1 t102 _ (zC (Kd.C_below HR0_1.out HB.out)) HC0_1.out A2.out).mono ?_); rintro e w' ⟨rfl, ⟨nd, rfl⟩⟩; refine ⟨_, rfl, ?_⟩))
 (try simp only [Act.put, List.setIfInBounds_toArray, List.set_cons_zero, List.set_cons_succ])
 go_cut [18] (fun v18 wc => ∃ (kq : Nat) (x18_6 : Bool), v18 = .bool x18_6 ∧ Aside0 (r15Check.j0 kq x18_6 a0_0 l0_1 = some r) ∧ Aside0 (kq ≤ k) ∧ Aside0 (wc.heap[gb101]? = some (.cells #[.int .i64 a0_0, (.slice A0_1 l0_1.length c0_1)] 33 (0, 0))) ∧ Aside0 (Below w.heap.size w wc))
 case first =>
  have H := HC7.out
  clear HC7
  by_cases c10 : (l0_1.length : Int) < 2
  ·rw [if_pos c10] at H
   have c10b0 : decide ((l0_1.length : Int) < 2) = true := decide_eq_true c10
   have c10b1 : decide (l0_1.length < 2) = true := decide_eq_true (by omega)
   clear c10
   (first | rw [c10b0] | (simp only [i64_w, i32_w]; rw [c10b0]) | skip)
   have H' := zm H
   clear H
   obtain ⟨hcz11_0, hcz11_1, hfz11_0, hfz11_1⟩ := zf2 BK101
   go_wp2
   go_meet
   case rel => exact ⟨_, (true), zX, H', ⟨by first | omega | exact Nat.le_refl _⟩, ⟨zK BK101.out⟩, ⟨zT⟩⟩
  rw [if_neg c10] at H
  have c10b0 : decide ((l0_1.length : Int) < 2) = false := decide_eq_false c10
  have c10b1 : decide (l0_1.length < 2) = false := decide_eq_false (by omega)
  clear c10
  (first | rw [c10b0] | (simp only [i64_w, i32_w]; rw [c10b0]) | skip)
  obtain ⟨t103, A12, H⟩ := zO H
  have H' := zm H
  clear H
  obtain ⟨hcz13_0, hcz13_1, hfz13_0, hfz13_1⟩ := zf2 BK101
  go_wp2_with (first | (go_at_call 63; (with_reducible refine (r9Lead.calls _ _ l0_1 t103 _ (zC (Kd.C_below HR0_1.out HB.out)) HC0_1.out A12.out).mono ?_); rintro e w' ⟨rfl, ⟨nd, rfl⟩⟩))
  go_meet
  case rel => exact ⟨_, ((t103 != 1)), zX, H', ⟨by first | omega | exact Nat.le_refl _⟩, ⟨zK BK101.out⟩, ⟨zT⟩⟩
 case rest =>
  clear HC7
  obtain ⟨kq, x18_6, rfl, HA, HJ6, BK101, HB⟩ := hcut
  cases kq with
  | zero => exact absurd HA.out (by simp [r15Check.j0])
  | succ kj6 =>
   have H := HA.out
   clear HA
   simp only [r15Check.j0] at H
   by_cases c14 : x18_6 = true
   ·subst c14
    rw [if_pos rfl] at H
    obtain rfl := Option.some.inj H
    go_wp2
    go_ret
    exact ⟨zQ, zT⟩
   replace c14 := Bool.eq_false_iff.mpr c14
   subst c14
   rw [if_neg Bool.false_ne_true] at H
   obtain ⟨t104, A15, H⟩ := zO H
   by_cases c16 : t104 = true
   ·subst c16
    rw [if_pos rfl] at H
    obtain rfl := Option.some.inj H
    obtain ⟨hcz17_0, hcz17_1, hfz17_0, hfz17_1⟩ := zf2 BK101
    go_wp2_with (first | ((with_reducible refine gate_callee (f := 48) rfl ?_); refine zG (some 34) Try.func48 #[.int .i64 a0_0, .slice A0_1 l0_1.length c0_1] ?_; (with_reducible refine (r9IsIrreducible.calls kj6 a0_0 _ _ l0_1 true _ (zC (Kd.C_below HR0_1.out HB.out)) HC0_1.out A15.out).mono ?_); rintro e w18 ⟨rfl, hb⟩; refine ⟨_, rfl, ?_⟩; replace BK101 := zKb BK101 hb; replace HB := zBb HB hb))
    go_ret
    exact ⟨zQ, zT⟩
   replace c16 := Bool.eq_false_iff.mpr c16
   subst c16
   rw [if_neg Bool.false_ne_true] at H
   obtain rfl := Option.some.inj H
   obtain ⟨hcz19_0, hcz19_1, hfz19_0, hfz19_1⟩ := zf2 BK101
   go_wp2_with (first | ((with_reducible refine gate_callee (f := 48) rfl ?_); refine zG (some 34) Try.func48 #[.int .i64 a0_0, .slice A0_1 l0_1.length c0_1] ?_; (with_reducible refine (r9IsIrreducible.calls kj6 a0_0 _ _ l0_1 false _ (zC (Kd.C_below HR0_1.out HB.out)) HC0_1.out A15.out).mono ?_); rintro e w20 ⟨rfl, hb⟩; refine ⟨_, rfl, ?_⟩; replace BK101 := zKb BK101 hb; replace HB := zBb HB hb))
   go_ret
   exact ⟨zQ, zT⟩
def r15Member.f (k : Nat) (a0_0 : Int) (l0_1 : List Int) (l1 : List Int) : Option (Int) := (r9Check.f k a0_0 l1).bind fun t102 => (if t102 = 0 then (if (l1.length : Int) ≥ (l0_1.length : Int) then (some 3) else (some t102)) else (some t102))
theorem r15Member.mono : ∀ a0 a1 a2 k, LeO (r15Member.f k a0 a1 a2) (r15Member.f (k + 1) a0 a1 a2) := by
 intro a0 a1 a2 k
 unfold r15Member.f
 with_reducible repeat' first | exact r9Check.mono _ _ _ | exact LeO.refl _ | exact LeO.none _ | refine LeO.ite ?_ ?_ | refine LeO.bind ?_ (fun _ => ?_)
theorem r15Member.calls (k : Nat) (a0_0 : Int) (A0_1 : Option Addr) (c0_1 : Nat) (l0_1 : List Int) (A1 : Option Addr) (c1 : Nat) (l1 : List Int) (r : Int) (w : World) (hr0_1 : Kd.C (Kd.int .i64) w A0_1 l0_1.length l0_1) (hc0_1 : l0_1.length ≤ c0_1) (hr1 : Kd.C (Kd.int .i64) w A1 l1.length l1) (hc1 : l1.length ≤ c1) (h : r15Member.f k a0_0 l0_1 l1 = some r) :
  Calls Try.prog 31 #[.agg #[.int .i64 a0_0, .slice A0_1 l0_1.length c0_1], .slice A1 l1.length c1] w fun e w' => e = .returned (.int .i64 r) ∧ Below w.heap.size w w' := by
 have hu33 := Try.underlying33
 have HR0_1 := zm hr0_1
 have HC0_1 := zm hc0_1
 clear hr0_1 hc0_1
 have HR1 := zm hr1
 have HC1 := zm hc1
 clear hr1 hc1
 have HB := zm (Below.refl w.heap.size w)
 have H := h; clear h; unfold r15Member.f at H
 obtain ⟨t102, A3, H⟩ := zO H
 by_cases c4 : t102 = 0
 rotate_left
 ·rw [if_neg c4] at H
  obtain ⟨c4b0, c4b1⟩ := zU c4
  obtain rfl := Option.some.inj H
  go_enter Try.func31, Try.ntmps31
  go_wp2_with (first | ((with_reducible refine gate_dst (N := 2) rfl ?_); (try (refine gate_guard (by rfl) ?_; dsimp only)); refine zb 2 #[.int .i64 a0_0, .slice A0_1 l0_1.length c0_1] 33 ?_; intro gb101 hg w10 hbox hb; have BK101 := zm (hbox); have GW101 := zg HB hg; have GE101 := GW101; replace HB := zBb HB hb; clear hb hbox hg; obtain ⟨hcz11_0, hcz11_1, hfz11_0, hfz11_1⟩ := zf2 BK101) | ((with_reducible refine gate_callee (f := 62) rfl ?_); refine zG (some 9) Try.func62 #[.int .i64 a0_0, .slice A1 l1.length c1] ?_; (with_reducible refine (r9Check.calls k a0_0 _ _ l1 t102 _ (zC (Kd.C_below HR1.out HB.out)) HC1.out A3.out).mono ?_); rintro e w' ⟨rfl, ⟨nd, rfl⟩⟩; refine ⟨_, rfl, ?_⟩))
  go_ret
  exact ⟨zQ, zT⟩
 rw [if_pos c4] at H
 obtain ⟨c4b0, c4b1⟩ := zE c4; clear c4
 by_cases c5 : (l1.length : Int) ≥ (l0_1.length : Int)
 ·rw [if_pos c5] at H
  have c5b0 : decide ((l0_1.length : Int) ≤ (l1.length : Int)) = true := decide_eq_true c5
  have c5b1 : decide (l0_1.length ≤ l1.length) = true := decide_eq_true (Int.ofNat_le.mp c5)
  clear c5
  obtain rfl := Option.some.inj H
  go_enter Try.func31, Try.ntmps31
  go_wp2_with (first | ((with_reducible refine gate_dst (N := 2) rfl ?_); (try (refine gate_guard (by rfl) ?_; dsimp only)); refine zb 2 #[.int .i64 a0_0, .slice A0_1 l0_1.length c0_1] 33 ?_; intro gb101 hg w6 hbox hb; have BK101 := zm (hbox); have GW101 := zg HB hg; have GE101 := GW101; replace HB := zBb HB hb; clear hb hbox hg; obtain ⟨hcz7_0, hcz7_1, hfz7_0, hfz7_1⟩ := zf2 BK101) | ((with_reducible refine gate_callee (f := 62) rfl ?_); refine zG (some 9) Try.func62 #[.int .i64 a0_0, .slice A1 l1.length c1] ?_; (with_reducible refine (r9Check.calls k a0_0 _ _ l1 t102 _ (zC (Kd.C_below HR1.out HB.out)) HC1.out A3.out).mono ?_); rintro e w' ⟨rfl, ⟨nd, rfl⟩⟩; refine ⟨_, rfl, ?_⟩))
  go_ret
  exact ⟨zQ, zT⟩
 rw [if_neg c5] at H
 have c5b0 : decide ((l0_1.length : Int) ≤ (l1.length : Int)) = false := decide_eq_false c5
 have c5b1 : decide (l0_1.length ≤ l1.length) = false := decide_eq_false (fun h => c5 (Int.ofNat_le.mpr h))
 clear c5
 obtain rfl := Option.some.inj H
 go_enter Try.func31, Try.ntmps31
 go_wp2_with (first | ((with_reducible refine gate_dst (N := 2) rfl ?_); (try (refine gate_guard (by rfl) ?_; dsimp only)); refine zb 2 #[.int .i64 a0_0, .slice A0_1 l0_1.length c0_1] 33 ?_; intro gb101 hg w8 hbox hb; have BK101 := zm (hbox); have GW101 := zg HB hg; have GE101 := GW101; replace HB := zBb HB hb; clear hb hbox hg; obtain ⟨hcz9_0, hcz9_1, hfz9_0, hfz9_1⟩ := zf2 BK101) | ((with_reducible refine gate_callee (f := 62) rfl ?_); refine zG (some 9) Try.func62 #[.int .i64 a0_0, .slice A1 l1.length c1] ?_; (with_reducible refine (r9Check.calls k a0_0 _ _ l1 t102 _ (zC (Kd.C_below HR1.out HB.out)) HC1.out A3.out).mono ?_); rintro e w' ⟨rfl, ⟨nd, rfl⟩⟩; refine ⟨_, rfl, ?_⟩))
 go_ret
 exact ⟨zQ, zT⟩
def r15CheckElement.f (k : Nat) (a0_0 : Int) (l0_1 : List Int) (l1 : List Int) : Option (Int) := (r15Check.f k a0_0 l0_1).bind fun t102 => (if t102 = 0 then ((r15Member.f k a0_0 l0_1 l1).bind fun t103 => (some t103)) else ((r15Check.f k a0_0 l0_1).bind fun t104 => (some t104)))
theorem r15CheckElement.mono : ∀ a0 a1 a2 k, LeO (r15CheckElement.f k a0 a1 a2) (r15CheckElement.f (k + 1) a0 a1 a2) := by
 intro a0 a1 a2 k
 unfold r15CheckElement.f
 with_reducible repeat' first | exact r15Check.mono _ _ _ | exact r15Member.mono _ _ _ _ | exact LeO.refl _ | exact LeO.none _ | refine LeO.ite ?_ ?_ | refine LeO.bind ?_ (fun _ => ?_)
theorem r15CheckElement.calls (k : Nat) (a0_0 : Int) (A0_1 : Option Addr) (c0_1 : Nat) (l0_1 : List Int) (A1 : Option Addr) (c1 : Nat) (l1 : List Int) (r : Int) (w : World) (hr0_1 : Kd.C (Kd.int .i64) w A0_1 l0_1.length l0_1) (hc0_1 : l0_1.length ≤ c0_1) (hr1 : Kd.C (Kd.int .i64) w A1 l1.length l1) (hc1 : l1.length ≤ c1) (h : r15CheckElement.f k a0_0 l0_1 l1 = some r) :
  Calls Try.prog 26 #[.agg #[.int .i64 a0_0, .slice A0_1 l0_1.length c0_1], .slice A1 l1.length c1] w fun e w' => e = .returned (.int .i64 r) ∧ Below w.heap.size w w' := by
 have hu33 := Try.underlying33
 have HR0_1 := zm hr0_1
 have HC0_1 := zm hc0_1
 clear hr0_1 hc0_1
 have HR1 := zm hr1
 have HC1 := zm hc1
 clear hr1 hc1
 have HB := zm (Below.refl w.heap.size w)
 have H := h; clear h; unfold r15CheckElement.f at H
 obtain ⟨t102, A3, H⟩ := zO H
 by_cases c4 : t102 = 0
 rotate_left
 ·rw [if_neg c4] at H
  obtain ⟨c4b0, c4b1⟩ := zU c4
  obtain ⟨t104, A11, H⟩ := zO H
  obtain rfl := Option.some.inj H
  go_enter Try.func26, Try.ntmps26
  go_wp2_with (first | ((with_reducible refine gate_dst (N := 2) rfl ?_); refine zb 2 #[.int .i64 a0_0, .slice A0_1 l0_1.length c0_1] 33 ?_; intro gb101 hg w12 hbox hb; have BK101 := zm (hbox); have GW101 := zg HB hg; have GE101 := GW101; replace HB := zBb HB hb; clear hb hbox hg; obtain ⟨hcz13_0, hcz13_1, hfz13_0, hfz13_1⟩ := zf2 BK101) | ((with_reducible refine gate_callee (f := 24) rfl ?_); refine zG (some 6) Try.func24 #[.agg #[.int .i64 a0_0, .slice A0_1 l0_1.length c0_1]] ?_; (with_reducible refine (r15Check.calls k a0_0 _ _ l0_1 t102 _ (zC (Kd.C_below HR0_1.out HB.out)) HC0_1.out A3.out).mono ?_); rintro e w14 ⟨rfl, hb⟩; refine ⟨_, rfl, ?_⟩; replace BK101 := zKb BK101 hb; replace HB := zBb HB hb; obtain ⟨hcz15_0, hcz15_1, hfz15_0, hfz15_1⟩ := zf2 BK101) | ((with_reducible refine gate_callee (f := 24) rfl ?_); refine zG (some 9) Try.func24 #[.agg #[.int .i64 a0_0, .slice A0_1 l0_1.length c0_1]] ?_; (with_reducible refine (r15Check.calls k a0_0 _ _ l0_1 t104 _ (zC (Kd.C_below HR0_1.out HB.out)) HC0_1.out A11.out).mono ?_); rintro e w16 ⟨rfl, hb⟩; refine ⟨_, rfl, ?_⟩; replace BK101 := zKb BK101 hb; replace HB := zBb HB hb))
  go_ret
  exact ⟨zQ, zT⟩
 rw [if_pos c4] at H
 obtain ⟨c4b0, c4b1⟩ := zE c4; clear c4
 obtain ⟨t103, A5, H⟩ := zO H
 obtain rfl := Option.some.inj H
 go_enter Try.func26, Try.ntmps26
 go_wp2_with (first | ((with_reducible refine gate_dst (N := 2) rfl ?_); refine zb 2 #[.int .i64 a0_0, .slice A0_1 l0_1.length c0_1] 33 ?_; intro gb101 hg w6 hbox hb; have BK101 := zm (hbox); have GW101 := zg HB hg; have GE101 := GW101; replace HB := zBb HB hb; clear hb hbox hg; obtain ⟨hcz7_0, hcz7_1, hfz7_0, hfz7_1⟩ := zf2 BK101) | ((with_reducible refine gate_callee (f := 24) rfl ?_); refine zG (some 6) Try.func24 #[.agg #[.int .i64 a0_0, .slice A0_1 l0_1.length c0_1]] ?_; (with_reducible refine (r15Check.calls k a0_0 _ _ l0_1 t102 _ (zC (Kd.C_below HR0_1.out HB.out)) HC0_1.out A3.out).mono ?_); rintro e w8 ⟨rfl, hb⟩; refine ⟨_, rfl, ?_⟩; replace BK101 := zKb BK101 hb; replace HB := zBb HB hb; obtain ⟨hcz9_0, hcz9_1, hfz9_0, hfz9_1⟩ := zf2 BK101) | ((with_reducible refine gate_callee (f := 31) rfl ?_); refine zG (some 12) Try.func31 #[.agg #[.int .i64 a0_0, .slice A0_1 l0_1.length c0_1], .slice A1 l1.length c1] ?_; (with_reducible refine (r15Member.calls k a0_0 _ _ l0_1 _ _ l1 t103 _ (zC (Kd.C_below HR0_1.out HB.out)) HC0_1.out (zC (Kd.C_below HR1.out HB.out)) HC1.out A5.out).mono ?_); rintro e w10 ⟨rfl, hb⟩; refine ⟨_, rfl, ?_⟩; replace BK101 := zKb BK101 hb; replace HB := zBb HB hb))
 go_ret
 exact ⟨zQ, zT⟩
def fi_Add.f (k : Nat) (a0_0 : Int) (l0_1 : List Int) (l1 : List Int) (l2 : List Int) : Option (List Int × Int) := (fi_check.f k a0_0 l0_1 (([l1, l2] : List (List Int)))).bind fun t105 => (if t105 = 0 then ((fp_Add.f k a0_0 l1 l2).bind fun t106 => (some (t106, 0))) else (some (([] : List Int), t105)))
theorem fi_Add.mono : ∀ a0 a1 a2 a3 k, LeO (fi_Add.f k a0 a1 a2 a3) (fi_Add.f (k + 1) a0 a1 a2 a3) := by
 intro a0 a1 a2 a3 k
 unfold fi_Add.f
 with_reducible repeat' first | exact fi_check.mono _ _ _ _ | exact fp_Add.mono _ _ _ _ | exact LeO.refl _ | exact LeO.none _ | refine LeO.ite ?_ ?_ | refine LeO.bind ?_ (fun _ => ?_)
theorem fi_Add.calls (k : Nat) (a0_0 : Int) (A0_1 : Option Addr) (c0_1 : Nat) (l0_1 : List Int) (P1_ : Nat → Prop) (A1 : Option Addr) (c1 : Nat) (l1 : List Int) (P2_ : Nat → Prop) (A2 : Option Addr) (c2 : Nat) (l2 : List Int) (r1 : List Int) (r2 : Int) (w : World) (hr0_1 : Kd.C (Kd.int .i64) w A0_1 l0_1.length l0_1) (hc0_1 : l0_1.length ≤ c0_1) (hs1 : Kd.V (Kd.int .i64) 3 w w.heap.size (fun k_ => P1_ k_) (.slice A1 l1.length c1) l1) (hs2 : Kd.V (Kd.int .i64) 3 w w.heap.size (fun k_ => P2_ k_) (.slice A2 l2.length c2) l2) (h : fi_Add.f k a0_0 l0_1 l1 l2 = some (r1, r2)) :
  Calls Try.prog 21 #[.agg #[.int .i64 a0_0, .slice A0_1 l0_1.length c0_1], .slice A1 l1.length c1, .slice A2 l2.length c2] w fun e w' => ∃ v0_ : Value, e = .returned (.tuple #[v0_, .int .i64 r2]) ∧ Kd.V (Kd.int .i64) 3 w' w.heap.size (fun k_ => ((P1_ k_ ∨ P2_ k_) ∨ w.heap.size ≤ k_)) v0_ r1 ∧ Below w.heap.size w w' := by
 have hu33 := Try.underlying33
 have HR0_1 := zm hr0_1
 have HC0_1 := zm hc0_1
 clear hr0_1 hc0_1
 have HO1 := zm (show Kd.V (Kd.int .i64) 3 w w.heap.size (fun k_ => ((P1_ k_ ∨ P2_ k_) ∨ w.heap.size ≤ k_)) (.slice A1 l1.length c1) l1 from Kd.V_mono hs1 (fun k_ hk => .inl (.inl hk)))
 have HO2 := zm (show Kd.V (Kd.int .i64) 3 w w.heap.size (fun k_ => ((P1_ k_ ∨ P2_ k_) ∨ w.heap.size ≤ k_)) (.slice A2 l2.length c2) l2 from Kd.V_mono hs2 (fun k_ hk => .inl (.inr hk)))
 have HB := zm (Below.refl w.heap.size w)
 have H := h; clear h; unfold fi_Add.f at H
 obtain ⟨y102, Ny102⟩ := zA ((([l1, l2] : List (List Int))) : List (List Int)); rw [← Ny102.out] at H
 obtain ⟨t105, A4, H⟩ := zO H
 by_cases c5 : t105 = 0
 rotate_left
 ·rw [if_neg c5] at H
  obtain ⟨c5b0, c5b1⟩ := zU c5
  simp only [Option.some.injEq, Prod.mk.injEq] at H
  obtain ⟨rfl, rfl⟩ := H
  go_enter Try.func21, Try.ntmps21
  go_wp2_with (first | ((with_reducible refine gate_dst (N := 3) rfl ?_); refine zb 3 #[.int .i64 a0_0, .slice A0_1 l0_1.length c0_1] 33 ?_; intro gb101 hg w15 hbox hb; replace HO1 := zm (Kd.V_below (Kd.V_elderB (zV HO1.out) gb101 (Nat.le_of_eq hg.symm)) hb); replace HO2 := zm (Kd.V_below (Kd.V_elderB (zV HO2.out) gb101 (Nat.le_of_eq hg.symm)) hb); have BK101 := zm (hbox); have GW101 := zg HB hg; have GE101 := GW101; replace HB := zBb HB hb; clear hb hbox hg; obtain ⟨hcz16_0, hcz16_1, hfz16_0, hfz16_1⟩ := zf2 BK101) | ((with_reducible refine gate_dst (N := 12) rfl ?_); refine Kd.N_lit (Kd.slice 3 (Kd.int .i64)) _ 25 ?hg (N' := 12) ?hd (xs := ([l1, l2] : List (List Int))) (inner := [.slice A1 l1.length c1, .slice A2 l2.length c2]) (ok := (fun k_ => ((P1_ k_ ∨ P2_ k_) ∨ w.heap.size ≤ k_) ∧ k_ ≠ gb101)) (okp := (fun k_ => ((P1_ k_ ∨ P2_ k_) ∨ w.heap.size ≤ k_) ∧ k_ ≠ gb101)) ?hr ?hp (fun _ hk => hk) ((show ∀ k_, w15.heap.size ≤ k_ → (fun k_ => ((P1_ k_ ∨ P2_ k_) ∨ w.heap.size ≤ k_) ∧ k_ ≠ gb101) k_ from fun k_ hk => ⟨(.inr (Nat.le_trans (zS HB) hk)), Kd.freshB (zK BK101.out) k_ hk⟩) _ (Nat.le_refl _)) (Below.refl _ _) (Nat.le_refl _) (by simp) ?_; (case hd => rfl); (case hg => rfl); (case hr => go_simp <;> rfl); (case hp => exact (Reps.one (show Kd.FK (Kd.slice 3 (Kd.int .i64)) _ _ l1 [.slice A1 l1.length c1] from (zFK HO1.out (fun k_ hk => ⟨hk.1, hk.2⟩))) (Reps.one (show Kd.FK (Kd.slice 3 (Kd.int .i64)) _ _ l2 [.slice A2 l2.length c2] from (zFK HO2.out (fun k_ hk => ⟨hk.1, hk.2⟩))) (Reps.none _ _)))); intro v103 w17 ho18 hb hg_ hnew_; clear hg_ hnew_; (first | rw [← Ny102.out] at ho18 | (simp only [Int.reduceToNat] at ho18; rw [← Ny102.out] at ho18)); replace HO1 := zm (Kd.V_elder' (zV HO1.out) (Kd.N_base ho18) hb); replace HO2 := zm (Kd.V_elder' (zV HO2.out) (Kd.N_base ho18) hb); have HO104 := zm (Kd.N_lower ho18 (zS HB)); replace BK101 := zKb BK101 hb; replace HB := zBb HB hb; clear hb ho18; obtain ⟨Ao19, co19, eo19⟩ := Kd.N_slice HO104.out; subst eo19) | ((with_reducible refine gate_callee (f := 53) rfl ?_); refine zG (some 13) Try.func53 #[.agg #[.int .i64 a0_0, .slice A0_1 l0_1.length c0_1], .slice Ao19 y102.length co19] ?_; (with_reducible refine (fi_check.calls k a0_0 _ _ l0_1 _ _ y102 t105 _ (zC (Kd.C_below HR0_1.out HB.out)) HC0_1.out (zC ((Kd.N_reads' HO104.out).2.2)) ((Kd.N_reads' HO104.out).2.1) A4.out).mono ?_); rintro e w20 ⟨rfl, hb⟩; refine ⟨_, rfl, ?_⟩; replace HO1 := zVb HO1 hb; replace HO2 := zVb HO2 hb; replace HO104 := zNb HO104 hb; replace BK101 := zKb BK101 hb; replace HB := zBb HB hb))
  go_ret2
  exact ⟨_, zQ, zL, zT⟩
 rw [if_pos c5] at H
 obtain ⟨c5b0, c5b1⟩ := zE c5; clear c5
 obtain ⟨t106, A6, H⟩ := zO H
 simp only [Option.some.injEq, Prod.mk.injEq] at H
 obtain ⟨rfl, rfl⟩ := H
 go_enter Try.func21, Try.ntmps21
 go_wp2_with (first | ((with_reducible refine gate_dst (N := 3) rfl ?_); refine zb 3 #[.int .i64 a0_0, .slice A0_1 l0_1.length c0_1] 33 ?_; intro gb101 hg w7 hbox hb; replace HO1 := zm (Kd.V_below (Kd.V_elderB (zV HO1.out) gb101 (Nat.le_of_eq hg.symm)) hb); replace HO2 := zm (Kd.V_below (Kd.V_elderB (zV HO2.out) gb101 (Nat.le_of_eq hg.symm)) hb); have BK101 := zm (hbox); have GW101 := zg HB hg; have GE101 := GW101; replace HB := zBb HB hb; clear hb hbox hg; obtain ⟨hcz8_0, hcz8_1, hfz8_0, hfz8_1⟩ := zf2 BK101) | ((with_reducible refine gate_dst (N := 12) rfl ?_); refine Kd.N_lit (Kd.slice 3 (Kd.int .i64)) _ 25 ?hg (N' := 12) ?hd (xs := ([l1, l2] : List (List Int))) (inner := [.slice A1 l1.length c1, .slice A2 l2.length c2]) (ok := (fun k_ => ((P1_ k_ ∨ P2_ k_) ∨ w.heap.size ≤ k_) ∧ k_ ≠ gb101)) (okp := (fun k_ => ((P1_ k_ ∨ P2_ k_) ∨ w.heap.size ≤ k_) ∧ k_ ≠ gb101)) ?hr ?hp (fun _ hk => hk) ((show ∀ k_, w7.heap.size ≤ k_ → (fun k_ => ((P1_ k_ ∨ P2_ k_) ∨ w.heap.size ≤ k_) ∧ k_ ≠ gb101) k_ from fun k_ hk => ⟨(.inr (Nat.le_trans (zS HB) hk)), Kd.freshB (zK BK101.out) k_ hk⟩) _ (Nat.le_refl _)) (Below.refl _ _) (Nat.le_refl _) (by simp) ?_; (case hd => rfl); (case hg => rfl); (case hr => go_simp <;> rfl); (case hp => exact (Reps.one (show Kd.FK (Kd.slice 3 (Kd.int .i64)) _ _ l1 [.slice A1 l1.length c1] from (zFK HO1.out (fun k_ hk => ⟨hk.1, hk.2⟩))) (Reps.one (show Kd.FK (Kd.slice 3 (Kd.int .i64)) _ _ l2 [.slice A2 l2.length c2] from (zFK HO2.out (fun k_ hk => ⟨hk.1, hk.2⟩))) (Reps.none _ _)))); intro v103 w9 ho10 hb hg_ hnew_; clear hg_ hnew_; (first | rw [← Ny102.out] at ho10 | (simp only [Int.reduceToNat] at ho10; rw [← Ny102.out] at ho10)); replace HO1 := zm (Kd.V_elder' (zV HO1.out) (Kd.N_base ho10) hb); replace HO2 := zm (Kd.V_elder' (zV HO2.out) (Kd.N_base ho10) hb); have HO104 := zm (Kd.N_lower ho10 (zS HB)); replace BK101 := zKb BK101 hb; replace HB := zBb HB hb; clear hb ho10; obtain ⟨Ao11, co11, eo11⟩ := Kd.N_slice HO104.out; subst eo11) | ((with_reducible refine gate_callee (f := 53) rfl ?_); refine zG (some 13) Try.func53 #[.agg #[.int .i64 a0_0, .slice A0_1 l0_1.length c0_1], .slice Ao11 y102.length co11] ?_; (with_reducible refine (fi_check.calls k a0_0 _ _ l0_1 _ _ y102 t105 _ (zC (Kd.C_below HR0_1.out HB.out)) HC0_1.out (zC ((Kd.N_reads' HO104.out).2.2)) ((Kd.N_reads' HO104.out).2.1) A4.out).mono ?_); rintro e w12 ⟨rfl, hb⟩; refine ⟨_, rfl, ?_⟩; replace HO1 := zVb HO1 hb; replace HO2 := zVb HO2 hb; replace HO104 := zNb HO104 hb; replace BK101 := zKb BK101 hb; replace HB := zBb HB hb; obtain ⟨hcz13_0, hcz13_1, hfz13_0, hfz13_1⟩ := zf2 BK101) | ((with_reducible refine gate_callee (f := 60) rfl ?_); refine zG (some 21) Try.func60 #[.int .i64 a0_0, .slice A1 l1.length c1, .slice A2 l2.length c2] ?_; (with_reducible refine (fp_Add.calls k a0_0 _ _ l1 _ _ l2 t106 _ (zC ((Kd.V_reads' HO1.out).2.2)) ((Kd.V_reads' HO1.out).2.1) (zC ((Kd.V_reads' HO2.out).2.2)) ((Kd.V_reads' HO2.out).2.1) A6.out).mono ?_); rintro e w14 ⟨v107, rfl, ho0, hb⟩; refine ⟨_, rfl, ?_⟩; replace HO1 := zVb HO1 hb; replace HO2 := zVb HO2 hb; have HO108 := zWV (fun k_ => ((P1_ k_ ∨ P2_ k_) ∨ w.heap.size ≤ k_) ∧ some k_ ≠ (.slice Ao11 y102.length co11 : Value).ownBlock ∧ k_ ≠ gb101) ho0 HB (fun k_ hk_ => ⟨(.inr (Nat.le_trans (zS HB) hk_)), (Kd.fresh' (Kd.N_lt (zN HO104.out)) k_ hk_), (Kd.freshB (zK BK101.out) k_ hk_)⟩); replace HO104 := zNb HO104 hb; replace BK101 := zKb BK101 hb; replace HB := zBb HB hb))
 go_ret2
 exact ⟨_, zQ, zV (Kd.V_mono HO108.out (fun _ hk => hk.1)), zT⟩
def fi_Sub.f (k : Nat) (a0_0 : Int) (l0_1 : List Int) (l1 : List Int) (l2 : List Int) : Option (List Int × Int) := (fi_check.f k a0_0 l0_1 (([l1, l2] : List (List Int)))).bind fun t105 => (if t105 = 0 then ((fp_Sub.f k a0_0 l1 l2).bind fun t106 => (some (t106, 0))) else (some (([] : List Int), t105)))
theorem fi_Sub.mono : ∀ a0 a1 a2 a3 k, LeO (fi_Sub.f k a0 a1 a2 a3) (fi_Sub.f (k + 1) a0 a1 a2 a3) := by
 intro a0 a1 a2 a3 k
 unfold fi_Sub.f
 with_reducible repeat' first | exact fi_check.mono _ _ _ _ | exact fp_Sub.mono _ _ _ _ | exact LeO.refl _ | exact LeO.none _ | refine LeO.ite ?_ ?_ | refine LeO.bind ?_ (fun _ => ?_)
theorem fi_Sub.calls (k : Nat) (a0_0 : Int) (A0_1 : Option Addr) (c0_1 : Nat) (l0_1 : List Int) (P1_ : Nat → Prop) (A1 : Option Addr) (c1 : Nat) (l1 : List Int) (P2_ : Nat → Prop) (A2 : Option Addr) (c2 : Nat) (l2 : List Int) (r1 : List Int) (r2 : Int) (w : World) (hr0_1 : Kd.C (Kd.int .i64) w A0_1 l0_1.length l0_1) (hc0_1 : l0_1.length ≤ c0_1) (hs1 : Kd.V (Kd.int .i64) 3 w w.heap.size (fun k_ => P1_ k_) (.slice A1 l1.length c1) l1) (hs2 : Kd.V (Kd.int .i64) 3 w w.heap.size (fun k_ => P2_ k_) (.slice A2 l2.length c2) l2) (h : fi_Sub.f k a0_0 l0_1 l1 l2 = some (r1, r2)) :
  Calls Try.prog 22 #[.agg #[.int .i64 a0_0, .slice A0_1 l0_1.length c0_1], .slice A1 l1.length c1, .slice A2 l2.length c2] w fun e w' => ∃ v0_ : Value, e = .returned (.tuple #[v0_, .int .i64 r2]) ∧ Kd.V (Kd.int .i64) 3 w' w.heap.size (fun k_ => ((P1_ k_ ∨ P2_ k_) ∨ w.heap.size ≤ k_)) v0_ r1 ∧ Below w.heap.size w w' := by
 have hu33 := Try.underlying33
 have HR0_1 := zm hr0_1
 have HC0_1 := zm hc0_1
 clear hr0_1 hc0_1
 have HO1 := zm (show Kd.V (Kd.int .i64) 3 w w.heap.size (fun k_ => ((P1_ k_ ∨ P2_ k_) ∨ w.heap.size ≤ k_)) (.slice A1 l1.length c1) l1 from Kd.V_mono hs1 (fun k_ hk => .inl (.inl hk)))
 have HO2 := zm (show Kd.V (Kd.int .i64) 3 w w.heap.size (fun k_ => ((P1_ k_ ∨ P2_ k_) ∨ w.heap.size ≤ k_)) (.slice A2 l2.length c2) l2 from Kd.V_mono hs2 (fun k_ hk => .inl (.inr hk)))
 have HB := zm (Below.refl w.heap.size w)
 have H := h; clear h; unfold fi_Sub.f at H
 obtain ⟨y102, Ny102⟩ := zA ((([l1, l2] : List (List Int))) : List (List Int)); rw [← Ny102.out] at H
 obtain ⟨t105, A4, H⟩ := zO H
 by_cases c5 : t105 = 0
 rotate_left
 ·rw [if_neg c5] at H
  obtain ⟨c5b0, c5b1⟩ := zU c5
  simp only [Option.some.injEq, Prod.mk.injEq] at H
  obtain ⟨rfl, rfl⟩ := H
  go_enter Try.func22, Try.ntmps22
  go_wp2_with (first | ((with_reducible refine gate_dst (N := 3) rfl ?_); refine zb 3 #[.int .i64 a0_0, .slice A0_1 l0_1.length c0_1] 33 ?_; intro gb101 hg w15 hbox hb; replace HO1 := zm (Kd.V_below (Kd.V_elderB (zV HO1.out) gb101 (Nat.le_of_eq hg.symm)) hb); replace HO2 := zm (Kd.V_below (Kd.V_elderB (zV HO2.out) gb101 (Nat.le_of_eq hg.symm)) hb); have BK101 := zm (hbox); have GW101 := zg HB hg; have GE101 := GW101; replace HB := zBb HB hb; clear hb hbox hg; obtain ⟨hcz16_0, hcz16_1, hfz16_0, hfz16_1⟩ := zf2 BK101) | ((with_reducible refine gate_dst (N := 12) rfl ?_); refine Kd.N_lit (Kd.slice 3 (Kd.int .i64)) _ 25 ?hg (N' := 12) ?hd (xs := ([l1, l2] : List (List Int))) (inner := [.slice A1 l1.length c1, .slice A2 l2.length c2]) (ok := (fun k_ => ((P1_ k_ ∨ P2_ k_) ∨ w.heap.size ≤ k_) ∧ k_ ≠ gb101)) (okp := (fun k_ => ((P1_ k_ ∨ P2_ k_) ∨ w.heap.size ≤ k_) ∧ k_ ≠ gb101)) ?hr ?hp (fun _ hk => hk) ((show ∀ k_, w15.heap.size ≤ k_ → (fun k_ => ((P1_ k_ ∨ P2_ k_) ∨ w.heap.size ≤ k_) ∧ k_ ≠ gb101) k_ from fun k_ hk => ⟨(.inr (Nat.le_trans (zS HB) hk)), Kd.freshB (zK BK101.out) k_ hk⟩) _ (Nat.le_refl _)) (Below.refl _ _) (Nat.le_refl _) (by simp) ?_; (case hd => rfl); (case hg => rfl); (case hr => go_simp <;> rfl); (case hp => exact (Reps.one (show Kd.FK (Kd.slice 3 (Kd.int .i64)) _ _ l1 [.slice A1 l1.length c1] from (zFK HO1.out (fun k_ hk => ⟨hk.1, hk.2⟩))) (Reps.one (show Kd.FK (Kd.slice 3 (Kd.int .i64)) _ _ l2 [.slice A2 l2.length c2] from (zFK HO2.out (fun k_ hk => ⟨hk.1, hk.2⟩))) (Reps.none _ _)))); intro v103 w17 ho18 hb hg_ hnew_; clear hg_ hnew_; (first | rw [← Ny102.out] at ho18 | (simp only [Int.reduceToNat] at ho18; rw [← Ny102.out] at ho18)); replace HO1 := zm (Kd.V_elder' (zV HO1.out) (Kd.N_base ho18) hb); replace HO2 := zm (Kd.V_elder' (zV HO2.out) (Kd.N_base ho18) hb); have HO104 := zm (Kd.N_lower ho18 (zS HB)); replace BK101 := zKb BK101 hb; replace HB := zBb HB hb; clear hb ho18; obtain ⟨Ao19, co19, eo19⟩ := Kd.N_slice HO104.out; subst eo19) | ((with_reducible refine gate_callee (f := 53) rfl ?_); refine zG (some 13) Try.func53 #[.agg #[.int .i64 a0_0, .slice A0_1 l0_1.length c0_1], .slice Ao19 y102.length co19] ?_; (with_reducible refine (fi_check.calls k a0_0 _ _ l0_1 _ _ y102 t105 _ (zC (Kd.C_below HR0_1.out HB.out)) HC0_1.out (zC ((Kd.N_reads' HO104.out).2.2)) ((Kd.N_reads' HO104.out).2.1) A4.out).mono ?_); rintro e w20 ⟨rfl, hb⟩; refine ⟨_, rfl, ?_⟩; replace HO1 := zVb HO1 hb; replace HO2 := zVb HO2 hb; replace HO104 := zNb HO104 hb; replace BK101 := zKb BK101 hb; replace HB := zBb HB hb))
  go_ret2
  exact ⟨_, zQ, zL, zT⟩
 rw [if_pos c5] at H
 obtain ⟨c5b0, c5b1⟩ := zE c5; clear c5
 obtain ⟨t106, A6, H⟩ := zO H
 simp only [Option.some.injEq, Prod.mk.injEq] at H
 obtain ⟨rfl, rfl⟩ := H
 go_enter Try.func22, Try.ntmps22
 go_wp2_with (first | ((with_reducible refine gate_dst (N := 3) rfl ?_); refine zb 3 #[.int .i64 a0_0, .slice A0_1 l0_1.length c0_1] 33 ?_; intro gb101 hg w7 hbox hb; replace HO1 := zm (Kd.V_below (Kd.V_elderB (zV HO1.out) gb101 (Nat.le_of_eq hg.symm)) hb); replace HO2 := zm (Kd.V_below (Kd.V_elderB (zV HO2.out) gb101 (Nat.le_of_eq hg.symm)) hb); have BK101 := zm (hbox); have GW101 := zg HB hg; have GE101 := GW101; replace HB := zBb HB hb; clear hb hbox hg; obtain ⟨hcz8_0, hcz8_1, hfz8_0, hfz8_1⟩ := zf2 BK101) | ((with_reducible refine gate_dst (N := 12) rfl ?_); refine Kd.N_lit (Kd.slice 3 (Kd.int .i64)) _ 25 ?hg (N' := 12) ?hd (xs := ([l1, l2] : List (List Int))) (inner := [.slice A1 l1.length c1, .slice A2 l2.length c2]) (ok := (fun k_ => ((P1_ k_ ∨ P2_ k_) ∨ w.heap.size ≤ k_) ∧ k_ ≠ gb101)) (okp := (fun k_ => ((P1_ k_ ∨ P2_ k_) ∨ w.heap.size ≤ k_) ∧ k_ ≠ gb101)) ?hr ?hp (fun _ hk => hk) ((show ∀ k_, w7.heap.size ≤ k_ → (fun k_ => ((P1_ k_ ∨ P2_ k_) ∨ w.heap.size ≤ k_) ∧ k_ ≠ gb101) k_ from fun k_ hk => ⟨(.inr (Nat.le_trans (zS HB) hk)), Kd.freshB (zK BK101.out) k_ hk⟩) _ (Nat.le_refl _)) (Below.refl _ _) (Nat.le_refl _) (by simp) ?_; (case hd => rfl); (case hg => rfl); (case hr => go_simp <;> rfl); (case hp => exact (Reps.one (show Kd.FK (Kd.slice 3 (Kd.int .i64)) _ _ l1 [.slice A1 l1.length c1] from (zFK HO1.out (fun k_ hk => ⟨hk.1, hk.2⟩))) (Reps.one (show Kd.FK (Kd.slice 3 (Kd.int .i64)) _ _ l2 [.slice A2 l2.length c2] from (zFK HO2.out (fun k_ hk => ⟨hk.1, hk.2⟩))) (Reps.none _ _)))); intro v103 w9 ho10 hb hg_ hnew_; clear hg_ hnew_; (first | rw [← Ny102.out] at ho10 | (simp only [Int.reduceToNat] at ho10; rw [← Ny102.out] at ho10)); replace HO1 := zm (Kd.V_elder' (zV HO1.out) (Kd.N_base ho10) hb); replace HO2 := zm (Kd.V_elder' (zV HO2.out) (Kd.N_base ho10) hb); have HO104 := zm (Kd.N_lower ho10 (zS HB)); replace BK101 := zKb BK101 hb; replace HB := zBb HB hb; clear hb ho10; obtain ⟨Ao11, co11, eo11⟩ := Kd.N_slice HO104.out; subst eo11) | ((with_reducible refine gate_callee (f := 53) rfl ?_); refine zG (some 13) Try.func53 #[.agg #[.int .i64 a0_0, .slice A0_1 l0_1.length c0_1], .slice Ao11 y102.length co11] ?_; (with_reducible refine (fi_check.calls k a0_0 _ _ l0_1 _ _ y102 t105 _ (zC (Kd.C_below HR0_1.out HB.out)) HC0_1.out (zC ((Kd.N_reads' HO104.out).2.2)) ((Kd.N_reads' HO104.out).2.1) A4.out).mono ?_); rintro e w12 ⟨rfl, hb⟩; refine ⟨_, rfl, ?_⟩; replace HO1 := zVb HO1 hb; replace HO2 := zVb HO2 hb; replace HO104 := zNb HO104 hb; replace BK101 := zKb BK101 hb; replace HB := zBb HB hb; obtain ⟨hcz13_0, hcz13_1, hfz13_0, hfz13_1⟩ := zf2 BK101) | ((with_reducible refine gate_callee (f := 61) rfl ?_); refine zG (some 21) Try.func61 #[.int .i64 a0_0, .slice A1 l1.length c1, .slice A2 l2.length c2] ?_; (with_reducible refine (fp_Sub.calls k a0_0 _ _ l1 _ _ l2 t106 _ (zC ((Kd.V_reads' HO1.out).2.2)) ((Kd.V_reads' HO1.out).2.1) (zC ((Kd.V_reads' HO2.out).2.2)) ((Kd.V_reads' HO2.out).2.1) A6.out).mono ?_); rintro e w14 ⟨v107, rfl, ho0, hb⟩; refine ⟨_, rfl, ?_⟩; replace HO1 := zVb HO1 hb; replace HO2 := zVb HO2 hb; have HO108 := zWV (fun k_ => ((P1_ k_ ∨ P2_ k_) ∨ w.heap.size ≤ k_) ∧ some k_ ≠ (.slice Ao11 y102.length co11 : Value).ownBlock ∧ k_ ≠ gb101) ho0 HB (fun k_ hk_ => ⟨(.inr (Nat.le_trans (zS HB) hk_)), (Kd.fresh' (Kd.N_lt (zN HO104.out)) k_ hk_), (Kd.freshB (zK BK101.out) k_ hk_)⟩); replace HO104 := zNb HO104 hb; replace BK101 := zKb BK101 hb; replace HB := zBb HB hb))
 go_ret2
 exact ⟨_, zQ, zV (Kd.V_mono HO108.out (fun _ hk => hk.1)), zT⟩
def r15Degree.f (a0_0 : Int) (l0_1 : List Int) : Option (Int) := some (wrap64 ((l0_1.length : Int) - 1))
theorem r15Degree.calls (a0_0 : Int) (A0_1 : Option Addr) (c0_1 : Nat) (l0_1 : List Int) (r : Int) (w : World) (hr0_1 : Kd.C (Kd.int .i64) w A0_1 l0_1.length l0_1) (hc0_1 : l0_1.length ≤ c0_1) (h : r15Degree.f a0_0 l0_1 = some r) :
  Calls Try.prog 50 #[.agg #[.int .i64 a0_0, .slice A0_1 l0_1.length c0_1]] w fun e w' => e = .returned (.int .i64 r) ∧ Below w.heap.size w w' := by
 have hu33 := Try.underlying33
 have HR0_1 := zm hr0_1
 have HC0_1 := zm hc0_1
 clear hr0_1 hc0_1
 have HB := zm (Below.refl w.heap.size w)
 have H := h; clear h; unfold r15Degree.f at H
 obtain rfl := Option.some.inj H
 go_enter Try.func50, Try.ntmps50
 go_wp2_with (first | ((with_reducible refine gate_dst (N := 1) rfl ?_); refine zb 1 #[.int .i64 a0_0, .slice A0_1 l0_1.length c0_1] 33 ?_; intro gb101 hg w2 hbox hb; have BK101 := zm (hbox); have GW101 := zg HB hg; have GE101 := GW101; replace HB := zBb HB hb; clear hb hbox hg; obtain ⟨hcz3_0, hcz3_1, hfz3_0, hfz3_1⟩ := zf2 BK101))
 go_ret
 exact ⟨zQ, zT⟩
def r15Size.l0 : Nat → Int → Int → Int → List Int → Option (Int)
 | 0, _, _, _, _ => none
 | k + 1, x3, x4, x102000, x102001 => (r15Degree.f x102000 x102001).bind fun t102 => (if x4 < t102 then (if x102000 = 0 then (none) else (if x3 > (wrap64 (Int.tdiv (2147483647 : Int) x102000)) then (some 0) else (r15Size.l0 k (wrap64 (x3 * x102000)) (wrap64 (x4 + 1)) x102000 x102001))) else (some x3))
def r15Size.f (k : Nat) (a0_0 : Int) (l0_1 : List Int) : Option (Int) := r15Size.l0 k 1 0 a0_0 l0_1
theorem r15Size.mono_l : ∀ k, (∀ y0 y1 y2 y3, LeO (r15Size.l0 k y0 y1 y2 y3) (r15Size.l0 (k + 1) y0 y1 y2 y3))
 | 0 => fun _ _ _ _ r h => by simp [r15Size.l0] at h
 | k + 1 => by
  have ih0 := r15Size.mono_l k
  intro y0 y1 y2 y3
  unfold r15Size.l0
  with_reducible repeat' first | exact ih0 _ _ _ _ | exact LeO.refl _ | exact LeO.none _ | refine LeO.ite ?_ ?_ | refine LeO.bind ?_ (fun _ => ?_)
theorem r15Size.mono : ∀ a0 a1 k, LeO (r15Size.f k a0 a1) (r15Size.f (k + 1) a0 a1) := by
 intro a0 a1 k
 have ih0 := r15Size.mono_l k
 unfold r15Size.f
 with_reducible repeat' first | exact ih0 _ _ _ _ | exact LeO.refl _ | exact LeO.none _ | refine LeO.ite ?_ ?_ | refine LeO.bind ?_ (fun _ => ?_)
theorem r15Size.calls (k : Nat) (a0_0 : Int) (A0_1 : Option Addr) (c0_1 : Nat) (l0_1 : List Int) (r : Int) (w : World) (hr0_1 : Kd.C (Kd.int .i64) w A0_1 l0_1.length l0_1) (hc0_1 : l0_1.length ≤ c0_1) (h : r15Size.f k a0_0 l0_1 = some r) :
  Calls Try.prog 15 #[.agg #[.int .i64 a0_0, .slice A0_1 l0_1.length c0_1]] w fun e w' => e = .returned (.int .i64 r) ∧ Below w.heap.size w w' := by
 have hu33 := Try.underlying33
 have HR0_1 := zm hr0_1
 have HC0_1 := zm hc0_1
 clear hr0_1 hc0_1
 have HB := zm (Below.refl w.heap.size w)
 have H := h; clear h; unfold r15Size.f at H
 have H' := zm H
 clear H
 go_enter Try.func15, Try.ntmps15
 go_wp2_with (first | ((with_reducible refine gate_dst (N := 1) rfl ?_); refine zb 1 #[.int .i64 a0_0, .slice A0_1 l0_1.length c0_1] 33 ?_; intro gb101 hg w2 hbox hb; have BK101 := zm (hbox); have GW101 := zg HB hg; have GE101 := GW101; replace HB := zBb HB hb; clear hb hbox hg))
 go_loopg [3, 4] k (fun kq v3 v4 w' => ∃ (x3_1 : Int) (x4_1 : Int), v3 = .int .i64 x3_1 ∧ v4 = .int .i64 x4_1 ∧ Aside0 (r15Size.l0 kq x3_1 x4_1 a0_0 l0_1 = some r) ∧ Aside0 (kq ≤ k) ∧ Aside0 (w'.heap[gb101]? = some (.cells #[.int .i64 a0_0, (.slice A0_1 l0_1.length c0_1)] 33 (0, 0))) ∧ Aside0 (Below w.heap.size w w'))
 case atStart => exact ⟨(1), (0), zX, zX, H', ⟨Nat.le_refl _⟩, ⟨zK BK101.out⟩, ⟨zT⟩⟩
 case round =>
  clear H'
  obtain ⟨x3_1, x4_1, rfl, rfl, HA, HK1, BK101, HB⟩ := hrel
  cases gk with
  | zero => exact absurd HA.out (by simp [r15Size.l0])
  | succ k1 =>
   have H := HA.out
   clear HA
   simp only [r15Size.l0] at H
   obtain ⟨t102, A3, H⟩ := zO H
   by_cases c4 : x4_1 < t102
   rotate_left
   ·rw [if_neg c4] at H
    have c4b0 := decide_eq_false c4; clear c4
    obtain rfl := Option.some.inj H
    obtain ⟨hcz13_0, hcz13_1, hfz13_0, hfz13_1⟩ := zf2 BK101
    go_wp2_with (first | ((with_reducible refine gate_callee (f := 50) rfl ?_); refine zG (some 7) Try.func50 #[.agg #[.int .i64 a0_0, .slice A0_1 l0_1.length c0_1]] ?_; (with_reducible refine (r15Degree.calls a0_0 _ _ l0_1 t102 _ (zC (Kd.C_below HR0_1.out HB.out)) HC0_1.out A3.out).mono ?_); rintro e w14 ⟨rfl, hb⟩; refine ⟨_, rfl, ?_⟩; replace BK101 := zKb BK101 hb; replace HB := zBb HB hb))
    go_ret
    exact ⟨zQ, zT⟩
   rw [if_pos c4] at H
   have c4b0 := decide_eq_true c4; clear c4
   by_cases c5 : a0_0 = 0
   ·rw [if_pos c5] at H
    exact absurd H (by simp)
   rw [if_neg c5] at H
   obtain ⟨c5b0, c5b1⟩ := zU c5
   by_cases c6 : x3_1 > (wrap64 (Int.tdiv (2147483647 : Int) a0_0))
   ·rw [if_pos c6] at H
    have c6b0 := decide_eq_true c6; clear c6
    obtain rfl := Option.some.inj H
    obtain ⟨hcz7_0, hcz7_1, hfz7_0, hfz7_1⟩ := zf2 BK101
    go_wp2_with (first | ((with_reducible refine gate_callee (f := 50) rfl ?_); refine zG (some 7) Try.func50 #[.agg #[.int .i64 a0_0, .slice A0_1 l0_1.length c0_1]] ?_; (with_reducible refine (r15Degree.calls a0_0 _ _ l0_1 t102 _ (zC (Kd.C_below HR0_1.out HB.out)) HC0_1.out A3.out).mono ?_); rintro e w8 ⟨rfl, hb⟩; refine ⟨_, rfl, ?_⟩; replace BK101 := zKb BK101 hb; replace HB := zBb HB hb; obtain ⟨hcz9_0, hcz9_1, hfz9_0, hfz9_1⟩ := zf2 BK101))
    go_ret
    exact ⟨zQ, zT⟩
   rw [if_neg c6] at H
   have c6b0 := decide_eq_false c6; clear c6
   have H' := zm H
   clear H
   obtain ⟨hcz10_0, hcz10_1, hfz10_0, hfz10_1⟩ := zf2 BK101
   go_wp2_with (first | ((with_reducible refine gate_callee (f := 50) rfl ?_); refine zG (some 7) Try.func50 #[.agg #[.int .i64 a0_0, .slice A0_1 l0_1.length c0_1]] ?_; (with_reducible refine (r15Degree.calls a0_0 _ _ l0_1 t102 _ (zC (Kd.C_below HR0_1.out HB.out)) HC0_1.out A3.out).mono ?_); rintro e w11 ⟨rfl, hb⟩; refine ⟨_, rfl, ?_⟩; replace BK101 := zKb BK101 hb; replace HB := zBb HB hb; obtain ⟨hcz12_0, hcz12_1, hfz12_0, hfz12_1⟩ := zf2 BK101))
   go_roundg k1
   case measure => have := HK1.out; omega
   case rel => exact ⟨(wrap64 (x3_1 * a0_0)), (wrap64 (x4_1 + 1)), zX, zX, H', ⟨by have := HK1.out; omega⟩, ⟨zK BK101.out⟩, ⟨zT⟩⟩
def r15Few.f (k : Nat) (a0_0 : Int) (l0_1 : List Int) (a1 : Int) : Option (Bool) := if (l0_1.length : Int) ≤ 17 then ((r15Check.f k a0_0 l0_1).bind fun t102 => (if t102 = 0 then ((r15Size.f k a0_0 l0_1).bind fun t103 => (if t103 > 0 then (some (decide (t103 ≤ a1))) else (some false))) else (some false))) else (some false)
theorem r15Few.mono : ∀ a0 a1 a2 k, LeO (r15Few.f k a0 a1 a2) (r15Few.f (k + 1) a0 a1 a2) := by
 intro a0 a1 a2 k
 unfold r15Few.f
 with_reducible repeat' first | exact r15Check.mono _ _ _ | exact r15Size.mono _ _ _ | exact LeO.refl _ | exact LeO.none _ | refine LeO.ite ?_ ?_ | refine LeO.bind ?_ (fun _ => ?_)
theorem r15Few.calls (k : Nat) (a0_0 : Int) (A0_1 : Option Addr) (c0_1 : Nat) (l0_1 : List Int) (a1 : Int) (r : Bool) (w : World) (hr0_1 : Kd.C (Kd.int .i64) w A0_1 l0_1.length l0_1) (hc0_1 : l0_1.length ≤ c0_1) (h : r15Few.f k a0_0 l0_1 a1 = some r) :
  Calls Try.prog 14 #[.agg #[.int .i64 a0_0, .slice A0_1 l0_1.length c0_1], .int .i64 a1] w fun e w' => e = .returned (.bool r) ∧ Below w.heap.size w w' := by
 have hu33 := Try.underlying33
 have HR0_1 := zm hr0_1
 have HC0_1 := zm hc0_1
 clear hr0_1 hc0_1
 have HB := zm (Below.refl w.heap.size w)
 have H := h; clear h; unfold r15Few.f at H
 by_cases c3 : (l0_1.length : Int) ≤ 17
 rotate_left
 ·rw [if_neg c3] at H
  have c3b0 : decide ((l0_1.length : Int) ≤ 17) = false := decide_eq_false c3
  have c3b1 : decide (l0_1.length ≤ 17) = false := decide_eq_false (by omega)
  clear c3
  obtain rfl := Option.some.inj H
  go_enter Try.func14, Try.ntmps14
  go_wp2_with (first | ((with_reducible refine gate_dst (N := 2) rfl ?_); refine zb 2 #[.int .i64 a0_0, .slice A0_1 l0_1.length c0_1] 33 ?_; intro gb101 hg w22 hbox hb; have BK101 := zm (hbox); have GW101 := zg HB hg; have GE101 := GW101; replace HB := zBb HB hb; clear hb hbox hg; obtain ⟨hcz23_0, hcz23_1, hfz23_0, hfz23_1⟩ := zf2 BK101))
  go_ret
  exact ⟨zQ, zT⟩
 rw [if_pos c3] at H
 have c3b0 : decide ((l0_1.length : Int) ≤ 17) = true := decide_eq_true c3
 have c3b1 : decide (l0_1.length ≤ 17) = true := decide_eq_true (by omega)
 clear c3
 obtain ⟨t102, A4, H⟩ := zO H
 by_cases c5 : t102 = 0
 rotate_left
 ·rw [if_neg c5] at H
  obtain ⟨c5b0, c5b1⟩ := zU c5
  obtain rfl := Option.some.inj H
  go_enter Try.func14, Try.ntmps14
  go_wp2_with (first | ((with_reducible refine gate_dst (N := 2) rfl ?_); refine zb 2 #[.int .i64 a0_0, .slice A0_1 l0_1.length c0_1] 33 ?_; intro gb101 hg w19 hbox hb; have BK101 := zm (hbox); have GW101 := zg HB hg; have GE101 := GW101; replace HB := zBb HB hb; clear hb hbox hg; obtain ⟨hcz20_0, hcz20_1, hfz20_0, hfz20_1⟩ := zf2 BK101) | (go_at_call 24; (with_reducible refine (r15Check.calls k a0_0 _ _ l0_1 t102 _ (zC (Kd.C_below HR0_1.out HB.out)) HC0_1.out A4.out).mono ?_); rintro e w21 ⟨rfl, hb⟩; replace BK101 := zKb BK101 hb; replace HB := zBb HB hb))
  go_ret
  exact ⟨zQ, zT⟩
 rw [if_pos c5] at H
 obtain ⟨c5b0, c5b1⟩ := zE c5; clear c5
 obtain ⟨t103, A6, H⟩ := zO H
 by_cases c7 : t103 > 0
 rotate_left
 ·rw [if_neg c7] at H
  have c7b0 := decide_eq_false c7; clear c7
  obtain rfl := Option.some.inj H
  go_enter Try.func14, Try.ntmps14
  go_wp2_with (first | ((with_reducible refine gate_dst (N := 2) rfl ?_); refine zb 2 #[.int .i64 a0_0, .slice A0_1 l0_1.length c0_1] 33 ?_; intro gb101 hg w14 hbox hb; have BK101 := zm (hbox); have GW101 := zg HB hg; have GE101 := GW101; replace HB := zBb HB hb; clear hb hbox hg; obtain ⟨hcz15_0, hcz15_1, hfz15_0, hfz15_1⟩ := zf2 BK101) | (go_at_call 24; (with_reducible refine (r15Check.calls k a0_0 _ _ l0_1 t102 _ (zC (Kd.C_below HR0_1.out HB.out)) HC0_1.out A4.out).mono ?_); rintro e w16 ⟨rfl, hb⟩; replace BK101 := zKb BK101 hb; replace HB := zBb HB hb; obtain ⟨hcz17_0, hcz17_1, hfz17_0, hfz17_1⟩ := zf2 BK101) | (go_at_call 15; (with_reducible refine (r15Size.calls k a0_0 _ _ l0_1 t103 _ (zC (Kd.C_below HR0_1.out HB.out)) HC0_1.out A6.out).mono ?_); rintro e w18 ⟨rfl, hb⟩; replace BK101 := zKb BK101 hb; replace HB := zBb HB hb))
  go_ret
  exact ⟨zQ, zT⟩
 rw [if_pos c7] at H
 have c7b0 := decide_eq_true c7; clear c7
 obtain rfl := Option.some.inj H
 go_enter Try.func14, Try.ntmps14
 go_wp2_with (first | ((with_reducible refine gate_dst (N := 2) rfl ?_); refine zb 2 #[.int .i64 a0_0, .slice A0_1 l0_1.length c0_1] 33 ?_; intro gb101 hg w8 hbox hb; have BK101 := zm (hbox); have GW101 := zg HB hg; have GE101 := GW101; replace HB := zBb HB hb; clear hb hbox hg; obtain ⟨hcz9_0, hcz9_1, hfz9_0, hfz9_1⟩ := zf2 BK101) | (go_at_call 24; (with_reducible refine (r15Check.calls k a0_0 _ _ l0_1 t102 _ (zC (Kd.C_below HR0_1.out HB.out)) HC0_1.out A4.out).mono ?_); rintro e w10 ⟨rfl, hb⟩; replace BK101 := zKb BK101 hb; replace HB := zBb HB hb; obtain ⟨hcz11_0, hcz11_1, hfz11_0, hfz11_1⟩ := zf2 BK101) | (go_at_call 15; (with_reducible refine (r15Size.calls k a0_0 _ _ l0_1 t103 _ (zC (Kd.C_below HR0_1.out HB.out)) HC0_1.out A6.out).mono ?_); rintro e w12 ⟨rfl, hb⟩; replace BK101 := zKb BK101 hb; replace HB := zBb HB hb; obtain ⟨hcz13_0, hcz13_1, hfz13_0, hfz13_1⟩ := zf2 BK101))
 go_ret
 exact ⟨zQ, zT⟩
end Go.Proofs.Ytalnaafmonmlmaa.Q
end

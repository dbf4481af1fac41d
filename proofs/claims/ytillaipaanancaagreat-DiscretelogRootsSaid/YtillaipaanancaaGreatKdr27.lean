/- Machine side and arithmetic of the law, put together by a program of the session. No conditions. -/
import Derived.Test.YtillaipaanancaaGreatKdr2
import Derived.Test.YtillaipaanancaaGreatKdr11
import Derived.Test.YtillaipaanancaaGreatKdr18
import Derived.Test.YtillaipaanancaaGreatKdr20
import Derived.Test.YtillaipaanancaaGreatKdr24
section
set_option linter.unusedVariables false
namespace Go.Proofs.YtillaipaanancaaGreat.Q
open Go.RowKit Go.TT Go.Proofs.YtillaipaanancaaGreatW.PrintWords Go.Proofs.YtillaipaanancaaGreat.M
theorem dlP_swo : Go.Sort.SWO (ltOf dlP) where
 irrefl x := by
  have := dlP_neg x x
  show decide (dlP x x < 0) = false
  exact decide_eq_false (by omega)
 trans x y z h1 h2 := decide_eq_true (dlP_trans x y z (of_decide_eq_true h1) (of_decide_eq_true h2))
 ntrans x y z h1 h2 := by
  have h1 := of_decide_eq_false h1
  have h2 := of_decide_eq_false h2
  refine decide_eq_false fun h3 => ?_
  have hn := dlP_neg x y
  by_cases h0 : dlP x y = 0
  ·exact h2 (dlP_eq x y h0 ▸ h3)
  ·exact h2 (dlP_trans y x z (by omega) h3)
theorem dlP_tot (x y : List Int) (h1 : ltOf dlP x y = false) (h2 : ltOf dlP y x = false) : x = y := by
 have h1 := of_decide_eq_false h1
 have h2 := of_decide_eq_false h2
 have hn := dlP_neg x y
 exact dlP_eq x y (by omega)
theorem Fl_ints_eq {w : World} {S : Nat → Prop} {k : IntKind} : ∀ {xs : List Int} {cs : List Value}, Fl (Cs w S (.int k)) xs cs → cs = xs.map (Value.int k)
 | [], _, h => h
 | x :: xs, _, ⟨c1, c2, e, h1, h2⟩ => by
  have h1 : c1 = [.int k x] := h1
  rw [e, h1, Fl_ints_eq h2]; rfl
theorem Vs_C {w : World} {S : Nat → Prop} {k : IntKind} {e : TypeId} {xs : List Int} {v : Value} (h : Vs w S (.sl e (.int k)) xs v) (hb : xs.length ≤ 9223372036854775807) : ∃ A c, v = .slice A xs.length c ∧ xs.length ≤ c ∧ Kd.C (Kd.int k) w A xs.length xs := by
 obtain ⟨A, c, cs, e0, hc, hf, hr⟩ := Vs_sl.1 h
 injection e0 with e0 _
 subst e0
 refine ⟨A, c, rfl, hc, rfl, hb, fun hn => ?_⟩
 have e := Fl_ints_eq hf
 subst e
 rcases hr with h0 | ⟨ad, rfl, _, hcell⟩
 ·exfalso
  have : xs = [] := by simpa using h0
  rw [this] at hn; simp at hn
 ·refine ⟨ad, rfl, fun j p hj => ⟨[.int k p], rfl, rfl, fun i u hi => ?_⟩⟩
  rcases i with _ | i
  ·injection hi with hi
   subst hi
   have := hcell j (.int k p) (by rw [List.getElem?_map, hj]; rfl)
   have e1 : j * (Kd.int k).sz + 0 = j := Nat.mul_one j
   rw [e1]; exact this
  ·cases hi
theorem grow_none (w : World) : w = Go.Sort.grow w #[] := by
 obtain ⟨⟩ := w
 simp [Go.Sort.grow]
theorem sort_conS {xs : List (List Int)} (hn : xs.length < 4611686018427387904) (hx : ∀ x ∈ xs, x.length ≤ 1000000) : ConS Tryz.prog 67 68 23 (.sl 3 (.int .i64)) xs (xs.mergeSort fun x y => !decide (dlP y x < 0)) := by
 refine conS_of (ρ := Tryz.sortL_ren) Tryz.sortL (t := .int .i64) dlP dlP_swo dlP_tot (enters_of Tryz.func68 (by kernel_rfl) rfl) xs hn ?_
 intro w S x y v u hS hx1 hy1 hv hu
 obtain ⟨A0, c0, rfl, hc0, h0⟩ := Vs_C hv (by have := hx x hx1; omega)
 obtain ⟨A1, c1, rfl, hc1, h1⟩ := Vs_C hu (by have := hx y hy1; omega)
 obtain ⟨K, hK⟩ := Compare_ok x y (hx x hx1)
 dsimp only at hK
 refine (pm_Compare.calls K A0 c0 x A1 c1 y (cmpL x y) w h0 hc0 h1 hc1 (hK K (Nat.le_refl _))).mono ?_
 rintro e w' ⟨rfl, ⟨n, rfl⟩⟩
 exact ⟨by rw [dlP_cmp], n, #[], grow_none _⟩
end Go.Proofs.YtillaipaanancaaGreat.Q
end

/- Machine side: a program of the session wrote this text (the kit's print.py and the session's own contracts). Conditions: none of its own. -/
import Derived.Test.YtmedflaejnbkoaaRows
import Derived.Test.YtmedflaejnbkoaaQF6
import Derived.Test.YtmedflaejnbkoaaPureResidueChinese
import Derived.WalkKit
import Derived.ProofKit
import Derived.OpenShut
import Derived.ShutString
import Derived.ChangeOld
import Derived.ChangeArms
import Derived.Below
import Derived.SizedLaws
import Derived.Lib.SmallJoins
import Derived.Laws.IdiomArrays
import Derived.Test.YtmedflaejnbkoaaWSized
namespace Go.Proofs.Ytmedflaejnbkoaa.residueChinese
open Go.ChangeShapes Go.WideShapes Go.ChangeAt Go.RowKit Go.Joins
open Go.ChangeMaps (open_string shut_string)
set_option linter.unusedVariables false
theorem own : ownKnob Try.prog.godebug = none := by kernel_rfl
theorem laidOut : laidOutB Try.prog = true := by kernel_rfl
def IsRow (k : IntKind) (w : World) (a : Option Addr) (len cap : Nat) (zs : List Int) : Prop :=
  (a = none ∧ len = 0 ∧ cap = 0 ∧ zs = []) ∨
  ∃ x, a = some x ∧ len ≤ cap ∧ cap ≤ maxLen ∧ zs.length = cap ∧ (∀ i, i < zs.length → w.cell? (x.add i) = some (.int k (zs.getD i 0))) ∧ ∀ n ∈ zs, (Lit.int k n).wf = true
theorem sized_part {H : Type} {P : Program} {t : TypeId} {fs : Array Field} {ts : List TypeId} {ds parts : List (DataW H)} {j : Nat}
    (hsz : (DataW.weightsEach P ts ds).all (· ≤ reachBytes) = true) (ht : ts[j]? = some t) (hd : ds[j]? = some (.agg parts)) (hu : P.underlying t = some (.struct fs)) :
    (DataW.weightsEach P (fs.toList.map (·.type)) parts).all (· ≤ reachBytes) = true := by
  refine List.all_eq_true.2 fun z hz => ?_
  exact List.all_eq_true.1 hsz _ (DataW.weights_mem_each ht hd z (by simp only [DataW.weights, hu]; exact hz))
theorem trod_one {H : Type} {enc : TypeId × Value → H} {P : Program} {W : World} {base : Nat} {spare : Nat → Bool} {held : Bool} {t : TypeId} {v : Value} {y : DataW H × List MemPlace} {n : Nat}
    (hv : v.cells.toList = [v]) (h : DataW.trod enc P W base spare held n t [v] = some y) : DataW.Trod enc P W base spare held t v y.1 y.2 := ⟨n, by rw [hv]; exact h⟩
theorem open_arr3 {H : Type} {enc : TypeId × Value → H} {P : Program} {w : World} {base : Nat} {spare : Nat → Bool} {held : Bool} {r : Reach} {b0 : Nat} {t e : TypeId} {v : Value} {d : DataW H} {p : List MemPlace}
    (hs : P.underlying t = some (.array 3 e)) (hce : P.cellsOf e = 1) (hC : P.cellsOf t = 3) (hv : Value.okWide P w r b0 t v) (h : DataW.Trod enc P w base spare held t v d p) :
    ∃ (v0 v1 v2 : Value) (y0 y1 y2 : DataW H × List MemPlace) (n : Nat), v = .agg #[v0, v1, v2] ∧ d = .agg [y0.1, y1.1, y2.1] ∧ p = y0.2 ++ (y1.2 ++ y2.2) ∧
      DataW.trod enc P w base spare held n e [v0] = some y0 ∧ DataW.trod enc P w base spare held n e [v1] = some y1 ∧ DataW.trod enc P w base spare held n e [v2] = some y2 := by
  simp only [Value.okWide, hs] at hv
  obtain ⟨cs, rfl, hsz, _⟩ := hv
  obtain ⟨c0, c1, c2, rfl⟩ := array3 (hsz.trans hC)
  obtain ⟨fuel, hf⟩ := h
  obtain ⟨y0, y1, y2, n, hx, h0, h1, h2⟩ := trod_array3 hs hce (by simpa [Value.cells] using hf)
  simp only [Prod.mk.injEq] at hx
  exact ⟨c0, c1, c2, y0, y1, y2, n, rfl, hx.1, hx.2, h0, h1, h2⟩
set_option maxRecDepth 100000 in
theorem lifted (os : Os) (started : os.Started) (H : Type) (enc : TypeId × Value → H) :
    ReturnsInHanded {} Try.checked os 6 .any (Rows.residueChineseSpec.pre6 enc Try.prog Try.f6 Rows.residueChineseRow.domain false) (Rows.residueChineseSpec.post enc Try.prog Try.f6 false true false false) := by
  refine returnsInHanded_of_change_sized (C := Try.checked) own started (by kernel_rfl) Try.func6
    (ChangeSpec.witness6 (enc := enc) (C := Try.checked) false ⟨#[], #[.agg #[.int .i64 0, .int .i64 0, .int .i64 0], .agg #[.int .u16 0, .int .u16 0, .int .u16 0]], []⟩ 8 (by kernel_rfl) (by kernel_rfl) (by kernel_rfl) (by kernel_rfl)) ?_
  intro W base args ds gs before hval0 hW hcnd hsz0 _
  have hsz : (DataW.weightsEach Try.prog (Try.f6.params.toList ++ Rows.residueChineseSpec.plain.varTypes Try.prog) (ds ++ gs)).all (· ≤ reachBytes) = true := hsz0
  have hval : ∀ (j : Nat) t v, Try.f6.params[j]? = some t → args[j]? = some v → Value.okWide Try.prog W .any base t v := hval0
  have hW' := hW
  obtain ⟨p, q, hA0, hV, rfl, hfz, hnd⟩ := hW
  have hA : DataW.TrodAll enc Try.prog W 0 (fun _ => true) true Try.f6.params.toList args.toList ds p := hA0
  rw [Try.params6] at hA hval hsz
  obtain ⟨v0, vs0, d0, ds0, p0, q0, hargs, rfl, rfl, h0, r0⟩ := trodAll_cons hA
  obtain ⟨v1, vs1, d1, ds1, p1, q1, rfl, rfl, rfl, h1, r1⟩ := trodAll_cons r0
  obtain ⟨rfl, rfl, rfl⟩ := trodAll_nil r1
  obtain rfl : args = #[v0, v1] := by cases args; simp_all
  obtain ⟨rfl, rfl⟩ := trodVars_none hV
  have k0 := h0
  have lt0 : ∀ x ∈ p0, x.block < W.heap.size := by obtain ⟨m, hm⟩ := k0; exact DataW.trod_lt m _ _ _ hm
  obtain ⟨v0_0, v0_1, v0_2, t0_0, t0_1, t0_2, n0, rfl, rfl, rfl, g0_0, g0_1, g0_2⟩ := open_arr3 Try.underlying41 (by kernel_rfl) (by kernel_rfl) (hval 0 41 v0 rfl rfl) h0
  obtain ⟨a0_0, e0_0, ey0_0, w0_0⟩ := DataW.trod_int Try.underlying3 g0_0
  obtain rfl : v0_0 = .int .i64 a0_0 := by simpa using e0_0
  obtain ⟨a0_1, e0_1, ey0_1, w0_1⟩ := DataW.trod_int Try.underlying3 g0_1
  obtain rfl : v0_1 = .int .i64 a0_1 := by simpa using e0_1
  obtain ⟨a0_2, e0_2, ey0_2, w0_2⟩ := DataW.trod_int Try.underlying3 g0_2
  obtain rfl : v0_2 = .int .i64 a0_2 := by simpa using e0_2
  have k1 := h1
  have lt1 : ∀ x ∈ p1, x.block < W.heap.size := by obtain ⟨m, hm⟩ := k1; exact DataW.trod_lt m _ _ _ hm
  obtain ⟨v1_0, v1_1, v1_2, t1_0, t1_1, t1_2, n1, rfl, rfl, rfl, g1_0, g1_1, g1_2⟩ := open_arr3 Try.underlying43 (by kernel_rfl) (by kernel_rfl) (hval 1 43 v1 rfl rfl) h1
  obtain ⟨a1_0, e1_0, ey1_0, w1_0⟩ := DataW.trod_int Try.underlying42 g1_0
  obtain rfl : v1_0 = .int .u16 a1_0 := by simpa using e1_0
  obtain ⟨a1_1, e1_1, ey1_1, w1_1⟩ := DataW.trod_int Try.underlying42 g1_1
  obtain rfl : v1_1 = .int .u16 a1_1 := by simpa using e1_1
  obtain ⟨a1_2, e1_2, ey1_2, w1_2⟩ := DataW.trod_int Try.underlying42 g1_2
  obtain rfl : v1_2 = .int .u16 a1_2 := by simpa using e1_2
  clear hA0 hval0 hsz0 hsz
  refine (Q.galoislaw04_ResidueChinese.walk Pure.ResidueChinese a0_0 a0_1 a0_2 a1_0 a1_1 a1_2 W w0_0 w0_1 w0_2 w1_0 w1_1 w1_2).mono fun e W' ⟨he, bel⟩ => ?_
  subst he
  exact ⟨_, rfl, _, _, _, [], _, [], hW', trodAll_mk1 (shut_bool Try.underlying4 _), (trodAll_cons_mk (Below.trod laidOut (by kernel_rfl) (of_decide_eq_true (by kernel_rfl)) k0 bel lt0) (trodAll_cons_mk (Below.trod laidOut (by kernel_rfl) (of_decide_eq_true (by kernel_rfl)) k1 bel lt1) trodAll_mk0)), rfl, bel.frame _, fun h => by cases h⟩
theorem over : Rows.residueChineseRow.holds Try.pinned (OpenSpec.ofChange Rows.residueChineseSpec) :=
  OpenClaim.holds_of_wide 6 Try.f6 rfl rfl rfl rfl rfl rfl rfl ⟨rfl, rfl, rfl, rfl, rfl⟩ rfl rfl rfl rfl rfl (by kernel_rfl) Try.func6 (by kernel_rfl)
    (of_decide_eq_true (by kernel_rfl)) (by unfold Func.isWrapper; first | (rw [if_pos (by decide +kernel)]; kernel_rfl) | (rw [if_neg (by decide +kernel)]; exact ⟨rfl, rfl⟩))
    (fun os started H enc _ => lifted os started H enc)
theorem proved : Rows.ResidueChineseSaid := over
#print axioms proved
end Go.Proofs.Ytmedflaejnbkoaa.residueChinese
namespace Go.Proofs.Ytmedflaejnbkoaa
/-- The row, under a short name, for the claim. -/
theorem residueChinese_holds : Rows.ResidueChineseSaid := residueChinese.proved
end Go.Proofs.Ytmedflaejnbkoaa

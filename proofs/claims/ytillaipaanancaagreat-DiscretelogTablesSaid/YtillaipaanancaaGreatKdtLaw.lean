/- Machine side: a program of the session wrote this text (the kit's print.py and the session's own contracts). Conditions: none of its own. -/
import Derived.Test.YtillaipaanancaaGreatRows
import Derived.Test.YtillaipaanancaaGreatKdt3
import Derived.Test.YtillaipaanancaaGreatKdt24
import Derived.Test.YtillaipaanancaaGreatKdt30
import Derived.WalkKit
import Derived.ProofKit
import Derived.OpenShut
import Derived.ShutString
import Derived.ChangeOld
import Derived.ChangeArms
import Derived.Below
import Derived.SizedLaws
import Derived.Lib.SmallJoins
import Derived.Laws.IdiomArrays
namespace Go.Proofs.YtillaipaanancaaGreat.discretelogTables
open Go.ChangeShapes Go.WideShapes Go.ChangeAt Go.RowKit Go.Joins
open Go.ChangeMaps (open_string shut_string)
set_option linter.unusedVariables false
theorem own : ownKnob Tryz.prog.godebug = none := by kernel_rfl
theorem laidOut : laidOutB Tryz.prog = true := by kernel_rfl
def IsRow (k : IntKind) (w : World) (a : Option Addr) (len cap : Nat) (zs : List Int) : Prop :=
  (a = none ∧ len = 0 ∧ cap = 0 ∧ zs = []) ∨
  ∃ x, a = some x ∧ len ≤ cap ∧ cap ≤ maxLen ∧ zs.length = cap ∧ (∀ i, i < zs.length → w.cell? (x.add i) = some (.int k (zs.getD i 0))) ∧ ∀ n ∈ zs, (Lit.int k n).wf = true
theorem sized_part {H : Type} {P : Program} {t : TypeId} {fs : Array Field} {ts : List TypeId} {ds parts : List (DataW H)} {j : Nat}
    (hsz : (DataW.weightsEach P ts ds).all (· ≤ reachBytes) = true) (ht : ts[j]? = some t) (hd : ds[j]? = some (.agg parts)) (hu : P.underlying t = some (.struct fs)) :
    (DataW.weightsEach P (fs.toList.map (·.type)) parts).all (· ≤ reachBytes) = true := by
  refine List.all_eq_true.2 fun z hz => ?_
  exact List.all_eq_true.1 hsz _ (DataW.weights_mem_each ht hd z (by simp only [DataW.weights, hu]; exact hz))
theorem trod_one {H : Type} {enc : TypeId × Value → H} {P : Program} {W : World} {base : Nat} {spare : Nat → Bool} {held : Bool} {t : TypeId} {v : Value} {y : DataW H × List MemPlace} {n : Nat}
    (hv : v.cells.toList = [v]) (h : DataW.trod enc P W base spare held n t [v] = some y) : DataW.Trod enc P W base spare held t v y.1 y.2 := ⟨n, by rw [hv]; exact h⟩
theorem array_two (T : Array Value) (h : T.size = 2) : ∃ v0 v1 : Value, T = #[v0, v1] := by
  obtain ⟨l⟩ := T
  match l, h with
  | [v0, v1], _ => exact ⟨v0, v1, rfl⟩
theorem trod_array2 {H : Type} {enc : TypeId × Value → H} {P : Program} {w : World} {base : Nat} {spare : Nat → Bool} {held : Bool} {t e : TypeId} {fuel : Nat} {c0 c1 : Value} {x : DataW H × List MemPlace} (ht : P.underlying t = some (.array 2 e)) (hce : P.cellsOf e = 1)
    (h : DataW.trod enc P w base spare held fuel t [c0, c1] = some x) :
    ∃ y0 y1 n, x = (.agg [y0.1, y1.1], y0.2 ++ y1.2) ∧ DataW.trod enc P w base spare held n e [c0] = some y0 ∧ DataW.trod enc P w base spare held n e [c1] = some y1 := by
  cases fuel with
  | zero => simp [DataW.trod] at h
  | succ n =>
    unfold DataW.trod at h
    rw [ht] at h
    have r2 : List.range 2 = [0, 1] := rfl
    simp [r2, hce] at h
    obtain ⟨_, h⟩ := h
    cases h0 : DataW.trod enc P w base spare held n e [c0] with
    | none => simp [h0] at h
    | some y0 =>
      cases h1 : DataW.trod enc P w base spare held n e [c1] with
      | none => simp [h0, h1] at h
      | some y1 =>
        simp [h0, h1] at h
        exact ⟨y0, y1, n, h.symm, h0, h1⟩
theorem open_arr2 {H : Type} {enc : TypeId × Value → H} {P : Program} {w : World} {base : Nat} {spare : Nat → Bool} {held : Bool} {r : Reach} {b0 : Nat} {t e : TypeId} {v : Value} {d : DataW H} {p : List MemPlace}
    (hs : P.underlying t = some (.array 2 e)) (hce : P.cellsOf e = 1) (hC : P.cellsOf t = 2) (hv : Value.okWide P w r b0 t v) (h : DataW.Trod enc P w base spare held t v d p) :
    ∃ (v0 v1 : Value) (y0 y1 : DataW H × List MemPlace) (n : Nat), v = .agg #[v0, v1] ∧ d = .agg [y0.1, y1.1] ∧ p = y0.2 ++ y1.2 ∧
      DataW.trod enc P w base spare held n e [v0] = some y0 ∧ DataW.trod enc P w base spare held n e [v1] = some y1 := by
  simp only [Value.okWide, hs] at hv
  obtain ⟨cs, rfl, hsz, _⟩ := hv
  obtain ⟨c0, c1, rfl⟩ := array_two _ (hsz.trans hC)
  obtain ⟨fuel, hf⟩ := h
  obtain ⟨y0, y1, n, hx, h0, h1⟩ := trod_array2 hs hce (by simpa [Value.cells] using hf)
  simp only [Prod.mk.injEq] at hx
  exact ⟨c0, c1, y0, y1, n, rfl, hx.1, hx.2, h0, h1⟩
set_option maxRecDepth 100000 in
theorem lifted (os : Os) (started : os.Started) (H : Type) (enc : TypeId × Value → H) :
    ReturnsInHanded {} Tryz.checked os 5 .any (Rows.discretelogTablesSpec.pre6 enc Tryz.prog Tryz.f5 Rows.discretelogTablesRow.domain false) (Rows.discretelogTablesSpec.post enc Tryz.prog Tryz.f5 false true false false) := by
  refine returnsInHanded_of_change_sized (C := Tryz.checked) own started (by kernel_rfl) Tryz.func5
    (ChangeSpec.witness6 (enc := enc) (C := Tryz.checked) false ⟨#[], #[.agg #[.int .i64 0, .slice none 0 0], .slice none 0 0, .agg #[.int .i64 0, .int .i64 0]], []⟩ 8 (by kernel_rfl) (by kernel_rfl) (by kernel_rfl) (by kernel_rfl)) ?_
  intro W base args ds gs before hval0 hW hcnd hsz0 _
  have hsz : (DataW.weightsEach Tryz.prog (Tryz.f5.params.toList ++ Rows.discretelogTablesSpec.plain.varTypes Tryz.prog) (ds ++ gs)).all (· ≤ reachBytes) = true := hsz0
  have hval : ∀ (j : Nat) t v, Tryz.f5.params[j]? = some t → args[j]? = some v → Value.okWide Tryz.prog W .any base t v := hval0
  have hW' := hW
  obtain ⟨p, q, hA0, hV, rfl, hfz, hnd⟩ := hW
  have hA : DataW.TrodAll enc Tryz.prog W 0 (fun _ => true) true Tryz.f5.params.toList args.toList ds p := hA0
  rw [Tryz.params5] at hA hval hsz
  obtain ⟨v0, vs0, d0, ds0, p0, q0, hargs, rfl, rfl, h0, r0⟩ := trodAll_cons hA
  obtain ⟨v1, vs1, d1, ds1, p1, q1, rfl, rfl, rfl, h1, r1⟩ := trodAll_cons r0
  obtain ⟨v2, vs2, d2, ds2, p2, q2, rfl, rfl, rfl, h2, r2⟩ := trodAll_cons r1
  obtain ⟨rfl, rfl, rfl⟩ := trodAll_nil r2
  obtain rfl : args = #[v0, v1, v2] := by cases args; simp_all
  obtain ⟨rfl, rfl⟩ := trodVars_none hV
  have k0 := h0
  have lt0 : ∀ x ∈ p0, x.block < W.heap.size := by obtain ⟨m, hm⟩ := k0; exact DataW.trod_lt m _ _ _ hm
  obtain ⟨v0_0, v0_1, t0_0, t0_1, n0, rfl, rfl, rfl, g0_0, g0_1⟩ := open_agg2 Tryz.underlying25 (by kernel_rfl) (by kernel_rfl) (hval 0 25 v0 rfl rfl) h0
  obtain ⟨a0_0, e0_0, ey0_0, w0_0⟩ := DataW.trod_int Tryz.underlying3 g0_0
  obtain rfl : v0_0 = .int .i64 a0_0 := by simpa using e0_0
  obtain ⟨a0_1, len0_1, cap0_1, e0_1⟩ := slice_form Tryz.underlying23 g0_1
  obtain rfl : v0_1 = .slice a0_1 len0_1 cap0_1 := by simpa using e0_1
  have h0_1 := trod_one (v := .slice a0_1 len0_1 cap0_1) rfl g0_1
  obtain ⟨z0_1, w0_1⟩ : ∃ zs, IsRow .i64 W a0_1 len0_1 cap0_1 zs := by
    obtain ⟨fuel, hf⟩ := h0_1
    rcases open_ints Tryz.underlying23 Tryz.underlying3 (by kernel_rfl) hf with ⟨hcs, _⟩ | ⟨x, l, c, zs, hcs, _, hl, hm, hz, _, hcell, hwz⟩
    · simp [Value.cells] at hcs
      obtain ⟨rfl, rfl, rfl⟩ := hcs
      exact ⟨[], .inl ⟨rfl, rfl, rfl, rfl⟩⟩
    · simp [Value.cells] at hcs
      obtain ⟨rfl, rfl, rfl⟩ := hcs
      exact ⟨zs, .inr ⟨_, rfl, hl, hm, by simpa using hz, hcell, hwz⟩⟩
  have y0_1 : len0_1 * 8 ≤ 140737488351232 := Go.Proofs.YtillaipaanancaaGreatW.PrintWords.sized_ints (sized_part hsz (j := 0) (t := 25) rfl rfl Tryz.underlying25) (j := 1) (t := 23) rfl rfl Tryz.underlying23 Tryz.underlying3 (by kernel_rfl) (by kernel_rfl) h0_1
  obtain ⟨a1, len1, cap1, rfl⟩ := okWide_slice Tryz.underlying23 (hval 1 23 v1 rfl rfl)
  have k1 := h1
  have lt1 : ∀ x ∈ p1, x.block < W.heap.size := by obtain ⟨m, hm⟩ := k1; exact DataW.trod_lt m _ _ _ hm
  obtain ⟨z1, w1⟩ : ∃ zs, IsRow .i64 W a1 len1 cap1 zs := by
    obtain ⟨fuel, hf⟩ := h1
    rcases open_ints Tryz.underlying23 Tryz.underlying3 (by kernel_rfl) hf with ⟨hcs, _⟩ | ⟨x, l, c, zs, hcs, _, hl, hm, hz, _, hcell, hwz⟩
    · simp [Value.cells] at hcs
      obtain ⟨rfl, rfl, rfl⟩ := hcs
      exact ⟨[], .inl ⟨rfl, rfl, rfl, rfl⟩⟩
    · simp [Value.cells] at hcs
      obtain ⟨rfl, rfl, rfl⟩ := hcs
      exact ⟨zs, .inr ⟨_, rfl, hl, hm, by simpa using hz, hcell, hwz⟩⟩
  have y1 : len1 * 8 ≤ 140737488351232 := Go.Proofs.YtillaipaanancaaGreatW.PrintWords.sized_ints hsz (j := 1) (t := 23) rfl rfl Tryz.underlying23 Tryz.underlying3 (by kernel_rfl) (by kernel_rfl) h1
  have k2 := h2
  have lt2 : ∀ x ∈ p2, x.block < W.heap.size := by obtain ⟨m, hm⟩ := k2; exact DataW.trod_lt m _ _ _ hm
  obtain ⟨v2_0, v2_1, t2_0, t2_1, n2, rfl, rfl, rfl, g2_0, g2_1⟩ := open_arr2 Tryz.underlying52 (by kernel_rfl) (by kernel_rfl) (hval 2 52 v2 rfl rfl) h2
  obtain ⟨a2_0, e2_0, ey2_0, w2_0⟩ := DataW.trod_int Tryz.underlying3 g2_0
  obtain rfl : v2_0 = .int .i64 a2_0 := by simpa using e2_0
  obtain ⟨a2_1, e2_1, ey2_1, w2_1⟩ := DataW.trod_int Tryz.underlying3 g2_1
  obtain rfl : v2_1 = .int .i64 a2_1 := by simpa using e2_1
  clear hA0 hval0 hsz0 hsz
  refine (Q.lw.walk Pure.DiscretelogTables a0_0 a0_1 len0_1 cap0_1 z0_1 a1 len1 cap1 z1 a2_0 a2_1 W w0_0 w0_1 y0_1 w1 y1 w2_0 w2_1).mono fun e W' ⟨he, bel⟩ => ?_
  subst he
  exact ⟨_, rfl, _, _, _, [], _, [], hW', trodAll_mk1 (shut_bool Tryz.underlying4 _), (trodAll_cons_mk (Below.trod laidOut (by kernel_rfl) (of_decide_eq_true (by kernel_rfl)) k0 bel lt0) (trodAll_cons_mk (Below.trod laidOut (by kernel_rfl) (of_decide_eq_true (by kernel_rfl)) k1 bel lt1) (trodAll_cons_mk (Below.trod laidOut (by kernel_rfl) (of_decide_eq_true (by kernel_rfl)) k2 bel lt2) trodAll_mk0))), rfl, bel.frame _, fun h => by cases h⟩
theorem over : Rows.discretelogTablesRow.holds Tryz.pinned (OpenSpec.ofChange Rows.discretelogTablesSpec) :=
  OpenClaim.holds_of_wide 5 Tryz.f5 rfl rfl rfl rfl rfl rfl rfl ⟨rfl, rfl, rfl, rfl, rfl⟩ rfl rfl rfl rfl rfl (by kernel_rfl) Tryz.func5 (by kernel_rfl)
    (of_decide_eq_true (by kernel_rfl)) (by unfold Func.isWrapper; first | (rw [if_pos (by decide +kernel)]; kernel_rfl) | (rw [if_neg (by decide +kernel)]; exact ⟨rfl, rfl⟩))
    (fun os started H enc _ => lifted os started H enc)
theorem proved : Rows.DiscretelogTablesSaid := over
#print axioms proved
end Go.Proofs.YtillaipaanancaaGreat.discretelogTables
namespace Go.Proofs.YtillaipaanancaaGreat
/-- The row, under a short name, for the claim. -/
theorem discretelogTables_holds : Rows.DiscretelogTablesSaid := discretelogTables.proved
end Go.Proofs.YtillaipaanancaaGreat

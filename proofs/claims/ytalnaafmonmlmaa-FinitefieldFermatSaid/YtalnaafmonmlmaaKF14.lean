/- Machine side and arithmetic of the law, put together by a program of the session. No conditions. -/
import Derived.Test.YtalnaafmonmlmaaProg
import Derived.Below
import Derived.OwnWalk
import Derived.Tactics
import Derived.WalkKit
import Derived.RowKit3
import Derived.Deep.LoopGhost
import Derived.Deep.QuietTactic
import Derived.BigQuiet
import Derived.WideLaws
import Derived.Deep.DeepCutAuto
import Derived.Deep.CutBlock
import Derived.Deep.RegionHeld3
import Derived.RowKit
import Derived.RangeFuncNested
import Derived.RangeFuncBound
import Derived.RangeFuncCalls
import Derived.RangeFuncLeaves
import Derived.Shelf.Abstract
import Derived.OwnWalkIn
import Derived.TacticsInMore
import Derived.LoopNIn
import Derived.LoopIn
import Derived.KernelRfl
import Derived.Test.YtalnaafmonmlmaaKF8
section
set_option linter.unusedVariables false
set_option linter.unusedSimpArgs false
set_option maxRecDepth 100000
set_option maxHeartbeats 8000000
namespace Go.Proofs.Ytalnaafmonmlmaa.Q
open Go.RowKit Go.TT Go.Shelf
attribute [local go_sem] Oper.semAt_some
theorem Elements1_vis0 {E : Int → List Int → Prop} {p : Int} {l : List Int} {N : Nat} (hN : N ≤ 4294967296) {el : Nat → List Int} (hcon : ∀ i r, E i r → Con Try.prog 52 [⟨.pr (.pr (.int .i64) (.pr (.sl 3 (.int .i64)) (.un))) (.un), ((p, (l, ())), ())⟩, ⟨.int .i64, i⟩] [(false, ⟨.sl 3 (.int .i64), r⟩)]) : Vis Try.prog 101 [⟨.rf (.int .i64), (N : Int)⟩, ⟨.rf (.pr (.pr (.int .i64) (.pr (.sl 3 (.int .i64)) (.un))) (.un)), ((p, (l, ())), ())⟩] N
  (fun i => [⟨.int .i64, (i : Int)⟩, ⟨.sl 3 (.int .i64), el i⟩]) (fun i => E i (el i)) := by
 refine ⟨⟨_, Try.func101, by kernel_rfl, by kernel_rfl⟩, ?_⟩
 intro m y w S lb J Jx hm hS ha hgrow hag hD hY h0
 obtain ⟨v1, v2, rfl⟩ : ∃ v1 v2, lb = [v1, v2] := by
  match lb, ha with
  | [v1, v2], _ => exact ⟨v1, v2, rfl⟩
  | [], h => exact h.elim
  | [_], h => exact h.2.elim
  | _ :: _ :: _ :: _, h => exact h.2.2.elim
 obtain ⟨h1, h2, _⟩ := ha
 have h1 : Vs w S (.rf (.int .i64)) (N : Int) v1 := h1
 have h2 : Vs w S (.rf (.pr (.pr (.int .i64) (.pr (.sl 3 (.int .i64)) (.un))) (.un))) ((p, (l, ())), ()) v2 := h2
 obtain ⟨⟨b1, o1, s1⟩, c1, e1, hb1, hc1, hd1⟩ := Vs_rf.1 h1
 obtain ⟨⟨b2, o2, s2⟩, c2, e2, hb2, hc2, hd2⟩ := Vs_rf.1 h2
 injection e1 with e1 _
 injection e2 with e2 _
 subst e1 e2
 have hc1 : c1 = [.int .i64 (N : Int)] := hc1
 subst hc1
 obtain ⟨c3, c4, rfl, ⟨c5, c6, rfl, hc5, c7, c8, rfl, ⟨A, c, cs', rfl, hcl, hfl, hsl⟩, hc8⟩, hc4⟩ := hc2
 have hc5 : c5 = [.int .i64 p] := hc5
 have hc8 : c8 = [] := hc8
 have hc4 : c4 = [] := hc4
 subst hc5 hc8 hc4
 have hq : w.cell? ⟨b1, o1, s1⟩ = some (.int .i64 (N : Int)) := hd1 0 _ rfl
 have hf0 : w.cell? ⟨b2, o2, s2⟩ = some (.int .i64 p) := hd2 0 _ rfl
 have hs1 : s1 = none := by cases s1 with
  | none => rfl
  | some z => revert hq; unfold World.cell?; split <;> simp
 have hs2 : s2 = none := by cases s2 with
  | none => rfl
  | some z => revert hf0; unfold World.cell?; split <;> simp
 subst hs1 hs2
 have hf1 : w.cell? ⟨b2, o2 + 1, none⟩ = some (.slice A l.length c) := hd2 1 _ rfl
 have hu68 := Try.underlying68
 refine callsIn_of_wp Try.func101 rfl trivial ?_ rfl
 simp only [Try.ntmps101, List.size_toArray, List.length_cons, List.length_nil, Nat.reduceAdd, Nat.reduceSub, Array.replicate_succ, Array.replicate_zero, List.push_toArray, List.append_toArray, List.nil_append, List.cons_append]
 gi_wp2
 gi_loopw [6] (fun i wr => ∃ k : Nat, k ≤ N ∧ i = .int .i64 k ∧ J k wr)
  (fun i _ => N - (intOf i).toNat)
 case atStart => exact ⟨0, Nat.zero_le _, rfl, h0⟩
 case round =>
  obtain ⟨k, hk, rfl, hJs⟩ := hrel
  have hagk := hag k wr hJs
  have cell : ∀ {ad : Addr} {u : Value}, S ad.block → w.cell? ad = some u → wr.cell? ad = some u := fun {ad u} hs h => by
   rw [World.cell?_of_block (hagk.1 _ hs)]; exact h
  have hcz0 := cell hb2 hf0
  have hcz1 := cell (ad := ⟨b2, o2 + 1, none⟩) hb2 hf1
  by_cases hlt : k < N
  ·have c4 : decide ((k : Int) < (N : Int)) = true := decide_eq_true (by omega)
   have hE := hD k wr hJs hlt
   gi_wp2
   have hcon := (hcon _ _ hE).2 wr S [.agg #[.int .i64 p, .slice A l.length c], .int .i64 (k : Int)] (fun b hb => Nat.lt_of_lt_of_le (hS b hb) hagk.2)
    ⟨⟨[.int .i64 p, .slice A l.length c], Cs_mono (fun _ h => h) hagk.1 (t := .pr (.pr (.int .i64) (.pr (.sl 3 (.int .i64)) (.un))) (.un)) (x := ((p, (l, ())), ())) ⟨_, _, rfl, ⟨_, _, rfl, rfl, ⟨_, _, rfl, ⟨A, c, cs', rfl, hcl, hfl, hsl⟩, rfl⟩⟩, rfl⟩, rfl⟩, Vs_int.2 rfl, trivial⟩
   refine ⟨trivial, CallsIn.mono (callsIn_wide.2 hcon) ?_⟩
   rintro e W1 ⟨vs, rfl, hb, S1, hs1, hs2, hr⟩
   obtain ⟨v, rfl⟩ : ∃ v, vs = [v] := by
    match vs, hr with
    | [v], _ => exact ⟨v, rfl⟩
    | [], h => exact h.elim
    | _ :: _ :: _, h => exact h.2.elim
   obtain ⟨fn, tmps, assign, body, hy, hR⟩ := hY k [.int .i64 (k : Int), v] wr W1 S1 hlt hJs hb ⟨Vs_int.2 rfl, hr.1, trivial⟩ hs2 hs1
   simp only [retv]
   gi_wp2
   refine hR.mono ?_
   rintro e W3 (⟨rfl, hJ3⟩ | ⟨rfl, hJx3⟩)
   ·gi_wp2
    go_roundw
    case rel => exact ⟨k + 1, by omega, by push_cast; rfl, hJ3⟩
    case measure => simp [intOf]; omega
   ·gi_wp2
    refine bodyPost_ret (results_none rfl _ _ _) rfl ?_
    exact ⟨⟨_, rfl⟩, .inr ⟨k, hlt, hJx3⟩⟩
  ·obtain rfl : k = N := by omega
   have c4 : decide ((k : Int) < (k : Int)) = false := decide_eq_false (by omega)
   gi_wp2
   go_end0
   exact ⟨⟨_, rfl⟩, .inl hJs⟩
end Go.Proofs.Ytalnaafmonmlmaa.Q
end

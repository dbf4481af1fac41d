/- Machine side and arithmetic of the law, put together by a program of the session. No conditions. -/
import Derived.Test.YtillaipaanancaaGreatProg
import Derived.Below
import Derived.OwnWalk
import Derived.Tactics
import Derived.WalkKit
import Derived.RowKit3
import Derived.Deep.LoopGhost
import Derived.Deep.QuietTactic
import Derived.BigQuiet
import Derived.WideLaws
import Derived.Deep.DeepCutAuto
import Derived.Deep.CutBlock
import Derived.Deep.RegionHeld3
import Derived.RowKit
import Derived.RangeFuncNested
import Derived.RangeFuncBound
import Derived.RangeFuncCalls
import Derived.RangeFuncLeaves
import Derived.Shelf.Abstract
import Derived.OwnWalkIn
import Derived.TacticsInMore
import Derived.LoopNIn
import Derived.LoopIn
import Derived.KernelRfl
import Derived.Test.YtillaipaanancaaGreatKdr12
section
set_option linter.unusedVariables false
set_option linter.unusedSimpArgs false
set_option maxRecDepth 100000
set_option maxHeartbeats 8000000
namespace Go.Proofs.YtillaipaanancaaGreat.Q
open Go.RowKit Go.TT Go.Shelf
attribute [local go_sem] Oper.semAt_some
theorem Elements1_vis0 {E : Int → List Int → Prop} {p : Int} {l : List Int} {N : Nat} (hN : N ≤ 4294967296) {el : Nat → List Int} (hcon : ∀ i r, E i r → Con Tryz.prog 113 [⟨.pr (.pr (.int .i64) (.pr (.sl 3 (.int .i64)) (.un))) (.un), ((p, (l, ())), ())⟩, ⟨.int .i64, i⟩] [(false, ⟨.sl 3 (.int .i64), r⟩)]) : Vis Tryz.prog 112 [⟨.rf (.int .i64), (N : Int)⟩, ⟨.rf (.pr (.pr (.int .i64) (.pr (.sl 3 (.int .i64)) (.un))) (.un)), ((p, (l, ())), ())⟩] N
  (fun i => [⟨.int .i64, (i : Int)⟩, ⟨.sl 3 (.int .i64), el i⟩]) (fun i => E i (el i)) := by
 refine ⟨⟨_, Tryz.func112, by kernel_rfl, by kernel_rfl⟩, ?_⟩
 intro m y w S lb J Jx hm hS ha hgrow hag hD hY h0
 obtain ⟨v1, v2, rfl⟩ : ∃ v1 v2, lb = [v1, v2] := by
  match lb, ha with
  | [v1, v2], _ => exact ⟨v1, v2, rfl⟩
  | [], h => exact h.elim
  | [_], h => exact h.2.elim
  | _ :: _ :: _ :: _, h => exact h.2.2.elim
 obtain ⟨h1, h2, _⟩ := ha
 have h1 : Vs w S (.rf (.int .i64)) (N : Int) v1 := h1
 have h2 : Vs w S (.rf (.pr (.pr (.int .i64) (.pr (.sl 3 (.int .i64)) (.un))) (.un))) ((p, (l, ())), ()) v2 := h2
 obtain ⟨⟨b1, o1, s1⟩, c1, e1, hb1, hc1, hd1⟩ := Vs_rf.1 h1
 obtain ⟨⟨b2, o2, s2⟩, c2, e2, hb2, hc2, hd2⟩ := Vs_rf.1 h2
 injection e1 with e1 _
 injection e2 with e2 _
 subst e1 e2
 have hc1 : c1 = [.int .i64 (N : Int)] := hc1
 subst hc1
 obtain ⟨c3, c4, rfl, ⟨c5, c6, rfl, hc5, c7, c8, rfl, ⟨A, c, cs', rfl, hcl, hfl, hsl⟩, hc8⟩, hc4⟩ := hc2
 have hc5 : c5 = [.int .i64 p] := hc5
 have hc8 : c8 = [] := hc8
 have hc4 : c4 = [] := hc4
 subst hc5 hc8 hc4
 have hq : w.cell? ⟨b1, o1, s1⟩ = some (.int .i64 (N : Int)) := hd1 0 _ rfl
 have hf0 : w.cell? ⟨b2, o2, s2⟩ = some (.int .i64 p) := hd2 0 _ rfl
 have hs1 : s1 = none := by cases s1 with
  | none => rfl
  | some z => revert hq; unfold World.cell?; split <;> simp
 have hs2 : s2 = none := by cases s2 with
  | none => rfl
  | some z => revert hf0; unfold World.cell?; split <;> simp
 subst hs1 hs2
 have hf1 : w.cell? ⟨b2, o2 + 1, none⟩ = some (.slice A l.length c) := hd2 1 _ rfl
 have hu87 := Tryz.underlying87
 refine callsIn_of_wp Tryz.func112 rfl trivial ?_ rfl
 simp only [Tryz.ntmps112, List.size_toArray, List.length_cons, List.length_nil, Nat.reduceAdd, Nat.reduceSub, Array.replicate_succ, Array.replicate_zero, List.push_toArray, List.append_toArray, List.nil_append, List.cons_append]
 gi_wp2
 gi_loopw [6] (fun i wr => ∃ (k : Nat) (T : Nat → Prop), k ≤ N ∧ i = .int .i64 k ∧ (∀ b, S b → T b) ∧ J k T wr)
  (fun i _ => N - (intOf i).toNat)
 case atStart => exact ⟨0, S, Nat.zero_le _, rfl, fun _ h => h, h0⟩
 case round =>
  obtain ⟨k, T, hk, rfl, hST, hJs⟩ := hrel
  have hagk := hag k T wr hJs
  have cell : ∀ {ad : Addr} {u : Value}, S ad.block → w.cell? ad = some u → wr.cell? ad = some u := fun {ad u} hs h => by
   rw [World.cell?_of_block (hagk.1 _ hs)]; exact h
  have hcz0 := cell hb2 hf0
  have hcz1 := cell (ad := ⟨b2, o2 + 1, none⟩) hb2 hf1
  by_cases hlt : k < N
  ·have c4 : decide ((k : Int) < (N : Int)) = true := decide_eq_true (by omega)
   have hE := hD k T wr hJs hlt
   gi_wp2
   have hcon := (hcon _ _ hE).2 wr S [.agg #[.int .i64 p, .slice A l.length c], .int .i64 (k : Int)] (fun b hb => Nat.lt_of_lt_of_le (hS b hb) hagk.2)
    ⟨⟨[.int .i64 p, .slice A l.length c], Cs_mono (fun _ h => h) hagk.1 (t := .pr (.pr (.int .i64) (.pr (.sl 3 (.int .i64)) (.un))) (.un)) (x := ((p, (l, ())), ())) ⟨_, _, rfl, ⟨_, _, rfl, rfl, ⟨_, _, rfl, ⟨A, c, cs', rfl, hcl, hfl, hsl⟩, rfl⟩⟩, rfl⟩, rfl⟩, Vs_int.2 rfl, trivial⟩
   refine ⟨trivial, CallsIn.mono (callsIn_wide.2 hcon) ?_⟩
   rintro e W1 ⟨vs, rfl, hb, S1, hs1, hs2, hr⟩
   obtain ⟨v, rfl⟩ : ∃ v, vs = [v] := by
    match vs, hr with
    | [v], _ => exact ⟨v, rfl⟩
    | [], h => exact h.elim
    | _ :: _ :: _, h => exact h.2.elim
   obtain ⟨fn, tmps, assign, body, hy, hR⟩ := hY k [.int .i64 (k : Int), v] wr W1 T S1 hlt hJs hb ⟨Vs_int.2 rfl, hr.1, trivial⟩ hs2 (fun b q1 q2 => hST b (hs1 b q1 q2))
   simp only [retv]
   gi_wp2
   refine hR.mono ?_
   rintro e W3 (⟨rfl, hJ3, _⟩ | ⟨rfl, hJx3⟩)
   ·gi_wp2
    go_roundw
    case rel => exact ⟨k + 1, _, by omega, by push_cast; rfl, fun b h => .inl (hST b h), hJ3⟩
    case measure => simp [intOf]; omega
   ·gi_wp2
    refine bodyPost_ret (results_none rfl _ _ _) rfl ?_
    exact ⟨⟨_, rfl⟩, .inr ⟨k, hlt, hJx3⟩⟩
  ·obtain rfl : k = N := by omega
   have c4 : decide ((k : Int) < (k : Int)) = false := decide_eq_false (by omega)
   gi_wp2
   go_end0
   exact ⟨⟨_, rfl⟩, .inl ⟨_, hJs⟩⟩
theorem Powers1_vis0 {Mu : List Int → List Int → Prop} {p : Int} {l g : List Int} {N : Nat} (hN : N ≤ 4294967296) {pw : Nat → List Int} (hp0 : pw 0 = [1])
  (hone : Con Tryz.prog 73 [⟨.pr (.pr (.int .i64) (.pr (.sl 3 (.int .i64)) (.un))) (.un), ((p, (l, ())), ())⟩] [(false, ⟨.sl 3 (.int .i64), [1]⟩)])
  (hmul : ∀ x r, Mu x r → Con Tryz.prog 61 [⟨.pr (.pr (.int .i64) (.pr (.sl 3 (.int .i64)) (.un))) (.un), ((p, (l, ())), ())⟩, ⟨.sl 3 (.int .i64), x⟩, ⟨.sl 3 (.int .i64), g⟩] [(false, ⟨.sl 3 (.int .i64), r⟩)]) :
  Vis Tryz.prog 107 [⟨.rf (.pr (.pr (.int .i64) (.pr (.sl 3 (.int .i64)) (.un))) (.un)), ((p, (l, ())), ())⟩, ⟨.rf (.int .i64), (N : Int)⟩, ⟨.rf (.sl 3 (.int .i64)), g⟩] N
  (fun i => [⟨.int .i64, (i : Int)⟩, ⟨.sl 3 (.int .i64), pw i⟩]) (fun i => Mu (pw i) (pw (i + 1))) := by
 refine ⟨⟨_, Tryz.func107, by kernel_rfl, by kernel_rfl⟩, ?_⟩
 intro m y w S lb J Jx hm hS ha hgrow hag hD hY h0
 obtain ⟨v1, v2, v3, rfl⟩ : ∃ v1 v2 v3, lb = [v1, v2, v3] := by
  match lb, ha with
  | [v1, v2, v3], _ => exact ⟨v1, v2, v3, rfl⟩
  | [], h => exact h.elim
  | [_], h => exact h.2.elim
  | [_, _], h => exact h.2.2.elim
  | _ :: _ :: _ :: _ :: _, h => exact h.2.2.2.elim
 obtain ⟨h2, h1, h3, _⟩ := ha
 have h1 : Vs w S (.rf (.int .i64)) (N : Int) v2 := h1
 have h2 : Vs w S (.rf (.pr (.pr (.int .i64) (.pr (.sl 3 (.int .i64)) (.un))) (.un))) ((p, (l, ())), ()) v1 := h2
 have h3 : Vs w S (.rf (.sl 3 (.int .i64))) g v3 := h3
 obtain ⟨⟨b1, o1, s1⟩, c1, e1, hb1, hc1, hd1⟩ := Vs_rf.1 h1
 obtain ⟨⟨b2, o2, s2⟩, c2, e2, hb2, hc2, hd2⟩ := Vs_rf.1 h2
 obtain ⟨⟨b3, o3, s3⟩, c9, e3, hb3, hc9, hd3⟩ := Vs_rf.1 h3
 injection e1 with e1 _
 injection e2 with e2 _
 injection e3 with e3 _
 subst e1 e2 e3
 have hc1 : c1 = [.int .i64 (N : Int)] := hc1
 subst hc1
 obtain ⟨c3, c4, rfl, ⟨c5, c6, rfl, hc5, c7, c8, rfl, ⟨A, c, cs', rfl, hcl, hfl, hsl⟩, hc8⟩, hc4⟩ := hc2
 have hc5 : c5 = [.int .i64 p] := hc5
 have hc8 : c8 = [] := hc8
 have hc4 : c4 = [] := hc4
 subst hc5 hc8 hc4
 have hG := hc9
 obtain ⟨A3, c3, cs3, rfl, _⟩ := hc9
 have hq : w.cell? ⟨b1, o1, s1⟩ = some (.int .i64 (N : Int)) := hd1 0 _ rfl
 have hf0 : w.cell? ⟨b2, o2, s2⟩ = some (.int .i64 p) := hd2 0 _ rfl
 have hg0 : w.cell? ⟨b3, o3, s3⟩ = some (.slice A3 g.length c3) := hd3 0 _ rfl
 have hs1 : s1 = none := by cases s1 with
  | none => rfl
  | some z => revert hq; unfold World.cell?; split <;> simp
 have hs2 : s2 = none := by cases s2 with
  | none => rfl
  | some z => revert hf0; unfold World.cell?; split <;> simp
 have hs3 : s3 = none := by cases s3 with
  | none => rfl
  | some z => revert hg0; unfold World.cell?; split <;> simp
 subst hs1 hs2 hs3
 have hf1 : w.cell? ⟨b2, o2 + 1, none⟩ = some (.slice A l.length c) := hd2 1 _ rfl
 have hu87 := Tryz.underlying87
 have hfld : ∀ {W : World} {T : Nat → Prop}, Ag S w W → Vs W S (.pr (.pr (.int .i64) (.pr (.sl 3 (.int .i64)) (.un))) (.un)) ((p, (l, ())), ()) (.agg #[.int .i64 p, .slice A l.length c]) := fun {W T} ha =>
  ⟨[.int .i64 p, .slice A l.length c], Cs_mono (fun _ h => h) ha (t := .pr (.pr (.int .i64) (.pr (.sl 3 (.int .i64)) (.un))) (.un)) (x := ((p, (l, ())), ())) ⟨_, _, rfl, ⟨_, _, rfl, rfl, ⟨_, _, rfl, ⟨A, c, cs', rfl, hcl, hfl, hsl⟩, rfl⟩⟩, rfl⟩, rfl⟩
 have cellS : ∀ {W : World} {ad : Addr} {u : Value}, Ag S w W → S ad.block → w.cell? ad = some u → W.cell? ad = some u := fun {W ad u} ha hs h => by
  rw [World.cell?_of_block (ha _ hs)]; exact h
 refine callsIn_of_wp Tryz.func107 rfl trivial ?_ rfl
 simp only [Tryz.ntmps107, List.size_toArray, List.length_cons, List.length_nil, Nat.reduceAdd, Nat.reduceSub, Array.replicate_succ, Array.replicate_zero, List.push_toArray, List.append_toArray, List.nil_append, List.cons_append]
 gi_wp2
 have hcon1 := hone.2 w S [.agg #[.int .i64 p, .slice A l.length c]] hS ⟨hfld (T := S) (fun _ _ => rfl), trivial⟩
 refine ⟨trivial, CallsIn.mono (callsIn_wide.2 hcon1) ?_⟩
 rintro e W0 ⟨vs, rfl, hbW, S0, hs01, hs02, hr0⟩
 obtain ⟨v, rfl⟩ : ∃ v, vs = [v] := by
  match vs, hr0 with
  | [v], _ => exact ⟨v, rfl⟩
  | [], h => exact h.elim
  | _ :: _ :: _, h => exact h.2.elim
 have hag0 : Ag S w W0 := fun b hb => hbW.block b (hS b hb)
 have hq0 := cellS hag0 hb1 hq
 simp only [retv]
 gi_wp2
 gi_loopw [5, 10] (fun x i wr => ∃ (k : Nat) (T S1 : Nat → Prop) (A0 : World), k ≤ N ∧ i = .int .i64 k ∧ (∀ b, S b → T b) ∧ J k T A0 ∧ Below A0.heap.size A0 wr ∧ (∀ b, S1 b → b < wr.heap.size) ∧ (∀ b, b < A0.heap.size → S1 b → T b) ∧ ∃ y : Value, x = y ∧ Vs wr S1 (.sl 3 (.int .i64)) (pw k) y)
  (fun _ i _ => N - (intOf i).toNat)
 case atStart => exact ⟨0, S, S0, w, Nat.zero_le _, rfl, fun _ h => h, h0, hbW, hs02, hs01, _, rfl, by rw [hp0]; exact hr0.1⟩
 case round =>
  obtain ⟨k, T, S1, A0, hk, rfl, hST, hJs, hbA, hS1, hS1o, x, hxe, hx⟩ := hrel
  have hxe := hxe.symm
  subst hxe
  have hJw := hgrow k T A0 _ hJs hbA
  by_cases hlt : k < N
  ·have c4 : decide ((k : Int) < (N : Int)) = true := decide_eq_true (by omega)
   have hE := hD k T A0 hJs hlt
   obtain ⟨fn, tmps, assign, body, hy, hR⟩ := hY k [.int .i64 (k : Int), x] A0 wr T S1 hlt hJs hbA ⟨Vs_int.2 rfl, hx, trivial⟩ hS1 hS1o
   gi_wp2
   refine hR.mono ?_
   rintro e W3 (⟨rfl, hJ3, hA3⟩ | ⟨rfl, hJx3⟩)
   ·have hag3 := hag (k + 1) _ W3 hJ3
    have hcz0 := cellS hag3.1 hb2 hf0
    have hcz1 := cellS (ad := ⟨b2, o2 + 1, none⟩) hag3.1 hb2 hf1
    have hcz2 := cellS hag3.1 hb3 hg0
    have hsz3 : ∀ b, S1 b → b < W3.heap.size := fun b hb => by
     have h1 := hS1 b hb
     have h2 := hA3 b (.inr hb)
     rw [Array.getElem?_eq_getElem h1] at h2
     exact (Array.getElem?_eq_some_iff.1 h2).1
    gi_wp2
    have hcon := (hmul _ _ hE).2 W3 (fun b => S b ∨ S1 b) [.agg #[.int .i64 p, .slice A l.length c], x, .slice A3 g.length c3] (fun b hb => hb.elim (fun hb => Nat.lt_of_lt_of_le (hS b hb) hag3.2) (hsz3 b))
     ⟨Vs_mono (fun _ h => .inl h) (fun _ _ => rfl) (hfld (T := S) hag3.1), Vs_mono (fun _ h => .inr h) (fun b hb => hA3 b (.inr hb)) hx, Vs_mono (fun _ h => .inl h) hag3.1 (Vs_sl.2 hG), trivial⟩
    refine ⟨trivial, CallsIn.mono (callsIn_wide.2 hcon) ?_⟩
    rintro e W4 ⟨vs4, rfl, hb4, S4, hs41, hs42, hr4⟩
    obtain ⟨v4, rfl⟩ : ∃ v, vs4 = [v] := by
     match vs4, hr4 with
     | [v], _ => exact ⟨v, rfl⟩
     | [], h => exact h.elim
     | _ :: _ :: _, h => exact h.2.elim
    simp only [retv]
    gi_wp2
    go_roundw
    case rel => exact ⟨k + 1, _, S4, W3, by omega, by push_cast; rfl, fun b h => .inl (hST b h), hJ3, hb4, hs42, fun b q1 q2 => (hs41 b q1 q2).imp (hST b) id, _, rfl, hr4.1⟩
    case measure => simp [intOf]; omega
   ·gi_wp2
    refine bodyPost_ret (results_none rfl _ _ _) rfl ?_
    exact ⟨⟨_, rfl⟩, .inr ⟨k, hlt, hJx3⟩⟩
  ·obtain rfl : k = N := by omega
   have c4 : decide ((k : Int) < (k : Int)) = false := decide_eq_false (by omega)
   gi_wp2
   go_end0
   exact ⟨⟨_, rfl⟩, .inl ⟨_, hJw⟩⟩
end Go.Proofs.YtillaipaanancaaGreat.Q
end

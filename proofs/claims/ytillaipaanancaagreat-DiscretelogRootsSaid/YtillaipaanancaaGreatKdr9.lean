/- Machine side and arithmetic of the law, put together by a program of the session. No conditions. -/
import Derived.Test.YtillaipaanancaaGreatKdr8
section
namespace Go.TT
open Go.RowKit
set_option linter.unusedVariables false
set_option linter.unusedSimpArgs false
theorem as_ex {y : TV} {t : Ty} {K : t.den → Prop} (h : y.ofT t K) : ∃ z, (∀ K' : t.den → Prop, K' z → y.ofT t K') ∧ K z := by
 obtain ⟨h, k⟩ := h; exact ⟨_, fun K' k' => ⟨h, k'⟩, k⟩
theorem rd_ex {t : Ty} {a : Arg} {K : t.den → Prop} (h : rdc t a K) : ∃ z, (∀ K' : t.den → Prop, K' z → rdc t a K') ∧ K z := by
 obtain ⟨p, o⟩ := a
 cases p <;> simp only [rdc] at h <;> try exact h.elim
 ·obtain ⟨z, z1, z2⟩ := as_ex h; exact ⟨z, z1, z2⟩
 ·cases t <;> simp only at h <;> try exact h.elim
  exact ⟨[], fun K' k => k, h⟩
 ·cases o with
  | none => exact h.elim
  | some o => obtain ⟨z, z1, z2⟩ := as_ex h.2; exact ⟨z, fun K' k => ⟨h.1, z1 K' k⟩, z2⟩
 ·cases o with
  | none => exact h.elim
  | some o => obtain ⟨z, z1, z2⟩ := as_ex h.2; exact ⟨z, fun K' k => ⟨h.1, z1 K' k⟩, z2⟩
 ·cases o with
  | none => exact h.elim
  | some o => obtain ⟨z, z1, z2⟩ := as_ex h.2; exact ⟨z, fun K' k => ⟨h.1, z1 K' k⟩, z2⟩
theorem shd_ex {t : Ty} {a : Arg} {K : t.den → Prop} (h : shd t a K) : ∃ z, (∀ K' : t.den → Prop, K' z → shd t a K') ∧ K z := by
 obtain ⟨p, o⟩ := a
 cases p <;> simp only [shd] at h <;> try exact h.elim
 ·obtain ⟨z, z1, z2⟩ := as_ex h; exact ⟨z, z1, z2⟩
 ·cases t <;> simp only at h <;> try exact h.elim
  exact ⟨[], fun K' k => k, h⟩
 ·cases o with
  | none => exact h.elim
  | some o => obtain ⟨z, z1, z2⟩ := as_ex h.2; exact ⟨z, fun K' k => ⟨h.1, z1 K' k⟩, z2⟩
 ·cases o with
  | none => exact h.elim
  | some o => obtain ⟨z, z1, z2⟩ := as_ex h.2; exact ⟨z, fun K' k => ⟨h.1, z1 K' k⟩, z2⟩
 ·obtain ⟨z, z1, z2⟩ := as_ex h; exact ⟨z, z1, z2⟩
 ·cases o with
  | none => exact h.elim
  | some o => obtain ⟨z, z1, z2⟩ := as_ex h.2; exact ⟨z, fun K' k => ⟨h.1, z1 K' k⟩, z2⟩
 ·cases o with
  | none => exact h.elim
  | some o => obtain ⟨z, z1, z2⟩ := as_ex h.2; exact ⟨z, fun K' k => ⟨h.1, z1 K' k⟩, z2⟩
theorem tvA_ex {a : Arg} {K : TV → Prop} (h : tvA a K) : ∃ z, (∀ K' : TV → Prop, K' z → tvA a K') ∧ K z := by
 obtain ⟨p, o⟩ := a
 cases p <;> simp only [tvA] at h <;> first
  | exact h.elim
  | exact ⟨_, fun K' k => k, h⟩
  | (cases o with
   | none => exact h.elim
   | some o => exact ⟨_, fun K' k => ⟨h.1, k⟩, h.2⟩)
theorem tvs_ex : ∀ {al : List Arg} {K : List TV → Prop}, tvs al K → ∃ z, (∀ K' : List TV → Prop, K' z → tvs al K') ∧ K z
 | [], K, h => ⟨[], fun K' k => k, h⟩
 | a :: al, K, h => by
  obtain ⟨y, y1, y2⟩ := tvA_ex h
  obtain ⟨z, z1, z2⟩ := tvs_ex (al := al) y2
  exact ⟨y :: z, fun K' k => y1 _ (z1 _ k), z2⟩
theorem rd1_ex {TE : TypeId → Option Ty} {T : TypeId} {a : Arg} {K : TV → Prop} (h : rd1 TE T a K) : ∃ z, (∀ K' : TV → Prop, K' z → rd1 TE T a K') ∧ K z := by
 obtain ⟨p, o⟩ := a
 cases p <;> simp only [rd1] at h ⊢ <;> first
  | exact h.elim
  | exact ⟨_, fun K' k => k, h⟩
  | (cases o with
   | none => exact h.elim
   | some o => exact ⟨_, fun K' k => ⟨h.1, k⟩, h.2⟩)
  | (split at h <;> first | exact h.elim | (rename_i e; exact ⟨_, fun K' k => by first | exact k | (rw [e]; exact k), h⟩))
theorem st_ex : ∀ {t : Ty} {fs : List Nat} {x : t.den} {y : TV} {K : t.den → Prop}, t.st fs x y K → ∃ z, (∀ K' : t.den → Prop, K' z → t.st fs x y K') ∧ K z
 | t, [], x, y, K, h => by
  unfold Ty.st at h
  obtain ⟨z, z1, z2⟩ := as_ex h
  exact ⟨z, fun K' k => by unfold Ty.st; exact z1 K' k, z2⟩
 | .pr a b, 0 :: fs, x, y, K, h => by
  obtain ⟨z, z1, z2⟩ := st_ex (t := a) (fs := fs) h
  exact ⟨_, fun K' k => z1 _ k, z2⟩
 | .pr a b, (n + 1) :: fs, x, y, K, h => by
  obtain ⟨z, z1, z2⟩ := st_ex (t := b) (fs := n :: fs) h
  exact ⟨_, fun K' k => z1 _ k, z2⟩
 | .ar b, 0 :: n :: fs, x, y, K, h => by
  obtain ⟨z, z1, z2⟩ := st_ex (t := b) (fs := n :: fs) h
  exact ⟨_, fun K' k => z1 _ k, z2⟩
 | .ar b, [_], _, _, _, h => by simp [Ty.st] at h
 | .ar b, (_ + 1) :: _ :: _, _, _, _, h => by simp [Ty.st] at h
 | .int _, _ :: _, _, _, _, h => by simp [Ty.st] at h
 | .bool, _ :: _, _, _, _, h => by simp [Ty.st] at h
 | .str, _ :: _, _, _, _, h => by simp [Ty.st] at h
 | .sl _ _, _ :: _, _, _, _, h => by simp [Ty.st] at h
 | .un, _ :: _, _, _, _, h => by simp [Ty.st] at h
 | .rf _, _ :: _, _, _, _, h => by simp [Ty.st] at h
 | .fn _ _ _, _ :: _, _, _, _, h => by simp [Ty.st] at h
 | .ifc _ _, _ :: _, _, _, _, h => by simp [Ty.st] at h
 | .id _ _, _ :: _, _, _, _, h => by simp [Ty.st] at h
 | .mp _ _, _ :: _, _, _, _, h => by simp [Ty.st] at h
theorem lst_ex {t : Ty} : ∀ {al : List Arg} {K : List t.den → Prop}, lst t al K → ∃ z, (∀ K' : List t.den → Prop, K' z → lst t al K') ∧ K z
 | [], K, h => ⟨[], fun K' k => k, h⟩
 | a :: al, K, h => by
  obtain ⟨y, y1, y2⟩ := shd_ex h
  obtain ⟨z, z1, z2⟩ := lst_ex (al := al) y2
  exact ⟨y :: z, fun K' k => y1 _ (z1 _ k), z2⟩
theorem bld_ex {t : Ty} : ∀ {ix : List Nat} {al : List Arg} {x : t.den} {K : t.den → Prop}, bld t ix al x K → ∃ z, (∀ K' : t.den → Prop, K' z → bld t ix al x K') ∧ K z
 | [], [], x, K, h => by unfold bld at h; exact ⟨x, fun K' k => by unfold bld; exact k, h⟩
 | i :: ix, a :: al, x, K, h => by
  unfold bld at h
  split at h
  ·rename_i q hq
   obtain ⟨y, y1, y2⟩ := shd_ex h
   obtain ⟨z, z1, z2⟩ := st_ex y2
   obtain ⟨r, r1, r2⟩ := bld_ex (ix := ix) (al := al) z2
   exact ⟨r, fun K' k => by unfold bld; rw [hq]; exact y1 _ (z1 _ (r1 _ k)), r2⟩
  ·exact h.elim
 | [], _ :: _, _, _, h => by unfold bld at h; exact h.elim
 | _ :: _, [], _, _, h => by unfold bld at h; exact h.elim
theorem bin_ex {op : BinOp} {k k' : IntKind} {a b : Int} {K : TV → Prop} (h : bin op k k' a b K) : ∃ r, (∀ K' : TV → Prop, K' r → bin op k k' a b K') ∧ K r := by
 cases op <;> simp only [bin] at h ⊢ <;> first
  | exact ⟨_, fun K' k => ⟨h.1, h.2.1, k⟩, h.2.2⟩
  | exact ⟨_, fun K' k => ⟨h.1, k⟩, h.2⟩
def Ex (key : Nat) (al : List Arg) (F : KK → Prop) (K : KK) : Prop := ∃ p obs, (∀ K' : KK, K' p obs → F K') ∧ K p obs ∧ (∀ k ∈ p.keys, k = key ∨ (∃ x ∈ al, k ∈ x.1.keys) ∨ k % 2 = 1) ∧ obs.length ≤ 1
theorem nth_keys : ∀ {p : PV} {i : Nat} {q : PV} {k : Nat}, p.nth i = some q → k ∈ q.keys → k ∈ p.keys
 | .pair a b, 0, q, k, e, h => by
  have e : some a = some q := e
  injection e with e; subst e; simp [PV.keys, h]
 | .pair a b, n + 1, q, k, e, h => by
  have := nth_keys (p := b) (i := n) e h
  simp [PV.keys, this]
 | .bot, _, _, _, e, _ => by simp [PV.nth] at e
 | .ro _ _, _, _, _, e, _ => by simp [PV.nth] at e
 | .nil, _, _, _, e, _ => by simp [PV.nth] at e
 | .own _, _, _, _, e, _ => by simp [PV.nth] at e
 | .ptr _ _ _, _, _, _, e, _ => by simp [PV.nth] at e
 | .cel _ _, _, _, _, e, _ => by simp [PV.nth] at e
 | .vw _ _ _, _, _, _, e, _ => by simp [PV.nth] at e
 | .one _ _, _, _, _, e, _ => by simp [PV.nth] at e
 | .tnil, _, _, _, e, _ => by simp [PV.nth] at e
theorem noKeys {p : PV} {key : Nat} {al : List Arg} (h : p.keys = []) : ∀ k ∈ p.keys, k = key ∨ (∃ x ∈ al, k ∈ x.1.keys) ∨ k % 2 = 1 := fun k hk => by rw [h] at hk; cases hk
theorem ownKey {key : Nat} {al : List Arg} : ∀ k ∈ (PV.own key).keys, k = key ∨ (∃ x ∈ al, k ∈ x.1.keys) ∨ k % 2 = 1 := fun k hk => .inl (by simpa [PV.keys] using hk)
theorem ptrKey {key : Nat} {al : List Arg} {i : Int} {fs : List Nat} : ∀ k ∈ (PV.ptr key i fs).keys, k = key ∨ (∃ x ∈ al, k ∈ x.1.keys) ∨ k % 2 = 1 := fun k hk => .inl (by simpa [PV.keys] using hk)
theorem argKeys {p : PV} {key : Nat} {al : List Arg} (h : ∀ k ∈ p.keys, ∃ x ∈ al, k ∈ x.1.keys) : ∀ k ∈ p.keys, k = key ∨ (∃ x ∈ al, k ∈ x.1.keys) ∨ k % 2 = 1 := fun k hk => .inr (.inl (h k hk))
theorem roSl_ex {e : TypeId} {t : Ty} {xs : List t.den} {lo hi : Bool} {al : List Arg} {K : KK} {key : Nat} {as0 : List Arg} (h : roSl e t xs lo hi al K) : Ex key as0 (roSl e t xs lo hi al) K := by
 unfold roSl at h
 split at h
 ·split at h
  ·exact ⟨_, _, fun K' k => by unfold roSl; exact k, h, (by first | exact noKeys rfl | exact ownKey | exact ptrKey | exact argKeys fun k hk => ⟨_, List.mem_cons_self, hk⟩), (by simp)⟩
  ·exact h.elim
 ·split at h
  ·exact ⟨_, _, fun K' k => by unfold roSl; exact ⟨h.1, h.2.1, k⟩, h.2.2, (by first | exact noKeys rfl | exact ownKey | exact ptrKey | exact argKeys fun k hk => ⟨_, List.mem_cons_self, hk⟩), (by simp)⟩
  ·exact ⟨_, _, fun K' k => by unfold roSl; exact ⟨h.1, h.2.1, k⟩, h.2.2, (by first | exact noKeys rfl | exact ownKey | exact ptrKey | exact argKeys fun k hk => ⟨_, List.mem_cons_self, hk⟩), (by simp)⟩
  ·exact h.elim
 ·split at h
  ·exact ⟨_, _, fun K' k => by unfold roSl; exact ⟨h.1, h.2.1, h.2.2.1, k⟩, h.2.2.2, (by first | exact noKeys rfl | exact ownKey | exact ptrKey | exact argKeys fun k hk => ⟨_, List.mem_cons_self, hk⟩), (by simp)⟩
  ·exact h.elim
 ·exact h.elim
theorem vwSl_exG {k n l0 : Nat} {lo hi : Bool} {al : List Arg} {K : KK} {key : Nat} {as0 : List Arg} (h : vwSl k n l0 lo hi al K) (hk : ∃ x ∈ as0, k ∈ x.1.keys) : Ex key as0 (vwSl k n l0 lo hi al) K := by
 have hks : ∀ a b, ∀ j ∈ (PV.vw k a b).keys, j = key ∨ (∃ x ∈ as0, j ∈ x.1.keys) ∨ j % 2 = 1 := fun a b j hj => .inr (.inl (by rw [List.mem_singleton.1 hj]; exact hk))
 unfold vwSl at h
 split at h
 ·split at h
  ·exact ⟨_, _, fun K' k => by unfold vwSl; exact k, h, hks _ _, (by simp)⟩
  ·exact h.elim
 ·split at h
  ·exact ⟨_, _, fun K' k => by unfold vwSl; exact ⟨h.1, h.2.1, k⟩, h.2.2, hks _ _, (by simp)⟩
  ·exact ⟨_, _, fun K' k => by unfold vwSl; exact ⟨h.1, h.2.1, k⟩, h.2.2, hks _ _, (by simp)⟩
  ·exact h.elim
 ·split at h
  ·exact ⟨_, _, fun K' k => by unfold vwSl; exact ⟨h.1, h.2.1, h.2.2.1, k⟩, h.2.2.2, hks _ _, (by simp)⟩
  ·exact h.elim
 ·exact h.elim
theorem vwSl_ex {k n l0 : Nat} {lo hi : Bool} {al : List Arg} {K : KK} {key : Nat} {as0 : List Arg} {o : Option Ob} (h : vwSl k n l0 lo hi al K) (hk : (PV.own k, o) ∈ as0) : Ex key as0 (vwSl k n l0 lo hi al) K := vwSl_exG h ⟨_, hk, List.mem_cons_self⟩
theorem vwSl_ex' {k n l0 i j : Nat} {lo hi : Bool} {al : List Arg} {K : KK} {key : Nat} {as0 : List Arg} {o : Option Ob} (h : vwSl k n l0 lo hi al K) (hk : (PV.vw k i j, o) ∈ as0) : Ex key as0 (vwSl k n l0 lo hi al) K := vwSl_exG h ⟨_, hk, List.mem_cons_self⟩
theorem roSl3_ex {e : TypeId} {t : Ty} {xs : List t.den} {lo : Bool} {al : List Arg} {K : KK} {key : Nat} {as0 : List Arg} (h : roSl3 e t xs lo al K) : Ex key as0 (roSl3 e t xs lo al) K := by
 unfold roSl3 at h
 split at h
 ·exact ⟨_, _, fun K' k => by unfold roSl3; exact ⟨h.1, h.2.1, h.2.2.1, h.2.2.2.1, k⟩, h.2.2.2.2, noKeys rfl, (by simp)⟩
 ·exact ⟨_, _, fun K' k => by unfold roSl3; exact ⟨h.1, h.2.1, h.2.2.1, h.2.2.2.1, h.2.2.2.2.1, k⟩, h.2.2.2.2.2, noKeys rfl, (by simp)⟩
 ·exact h.elim
theorem ev_ex {TE : TypeId → Option Ty} {key : Nat} {op : Op} {al : List Arg} {K : KK} (h : ev TE key op al K) : Ex key al (ev TE key op al) K := by
 have pass : ∀ {F : KK → Prop}, (∀ K', F K' → ev TE key op al K') → Ex key al F K → Ex key al (ev TE key op al) K := fun hF ⟨p, obs, h1, h2⟩ => ⟨p, obs, fun K' k => hF K' (h1 K' k), h2⟩
 unfold ev at h
 split at h
 ·refine pass (F := aMove al) (fun K' k => by unfold ev; exact k) ?_
  unfold aMove at h ⊢; split at h
  ·exact ⟨_, _, fun K' k => k, h, (by first | exact noKeys rfl | exact ownKey | exact ptrKey | exact argKeys fun k hk => ⟨_, List.mem_cons_self, hk⟩), (by simp)⟩
  ·exact h.elim
 ·refine pass (F := aMove al) (fun K' k => by unfold ev; exact k) ?_
  unfold aMove at h ⊢; split at h
  ·exact ⟨_, _, fun K' k => k, h, (by first | exact noKeys rfl | exact ownKey | exact ptrKey | exact argKeys fun k hk => ⟨_, List.mem_cons_self, hk⟩), (by simp)⟩
  ·exact h.elim
 ·refine pass (F := aPick al) (fun K' k => by unfold ev; exact k) ?_
  unfold aPick at h ⊢; split at h
  ·exact ⟨_, _, fun K' k => k, h, (argKeys fun k hk => by
   split at hk
   ·exact ⟨_, List.mem_cons_of_mem _ List.mem_cons_self, hk⟩
   ·exact ⟨_, List.mem_cons_of_mem _ (List.mem_cons_of_mem _ List.mem_cons_self), hk⟩), (by simp)⟩
  ·exact h.elim
 ·rename_i op _ _ _ _ 
  refine pass (F := aBin op al) (fun K' k => by unfold ev; exact k) ?_
  unfold aBin at h ⊢; split at h
  ·obtain ⟨r, r1, r2⟩ := bin_ex h; exact ⟨_, _, fun K' k => r1 _ k, r2, (by first | exact noKeys rfl | exact ownKey | exact ptrKey | exact argKeys fun k hk => ⟨_, List.mem_cons_self, hk⟩), (by simp)⟩
  ·split at h
   ·exact ⟨_, _, fun K' k => k, h, (by first | exact noKeys rfl | exact ownKey | exact ptrKey | exact argKeys fun k hk => ⟨_, List.mem_cons_self, hk⟩), (by simp)⟩
   ·exact ⟨_, _, fun K' k => k, h, (by first | exact noKeys rfl | exact ownKey | exact ptrKey | exact argKeys fun k hk => ⟨_, List.mem_cons_self, hk⟩), (by simp)⟩
   ·exact h.elim
  ·exact h.elim
 ·rename_i op _ _
  refine pass (F := aUn op al) (fun K' k => by unfold ev; exact k) ?_
  unfold aUn at h ⊢; split at h
  ·split at h
   ·exact ⟨_, _, fun K' k => k, h, (by first | exact noKeys rfl | exact ownKey | exact ptrKey | exact argKeys fun k hk => ⟨_, List.mem_cons_self, hk⟩), (by simp)⟩
   ·exact h.elim
  ·split at h
   ·exact ⟨_, _, fun K' k => k, h, (by first | exact noKeys rfl | exact ownKey | exact ptrKey | exact argKeys fun k hk => ⟨_, List.mem_cons_self, hk⟩), (by simp)⟩
   ·exact h.elim
  ·exact h.elim
 ·rename_i s d _
  refine pass (F := aConv TE s d al) (fun K' k => by unfold ev; exact k) ?_
  unfold aConv at h ⊢; split at h
  ·obtain ⟨h1, h⟩ := h
   split at h
   ·rename_i e; exact ⟨_, _, fun K' k => ⟨h1, by first | exact k | (rw [e]; exact k)⟩, h, (by first | exact noKeys rfl | exact ownKey | exact ptrKey | exact argKeys fun k hk => ⟨_, List.mem_cons_self, hk⟩), (by simp)⟩
   ·exact h.elim
  ·exact ⟨_, _, fun K' k => ⟨h.1, h.2.1, k⟩, h.2.2, (by first | exact noKeys rfl | exact ownKey | exact ptrKey | exact argKeys fun k hk => ⟨_, List.mem_cons_self, hk⟩), (by simp)⟩
  ·exact ⟨_, _, fun K' k => ⟨h.1, h.2.1, k⟩, h.2.2, (by first | exact noKeys rfl | exact ownKey | exact ptrKey | exact argKeys fun k hk => ⟨_, List.mem_cons_self, hk⟩), (by simp)⟩
  ·exact ⟨_, _, fun K' k => ⟨h.1, h.2.1, k⟩, h.2.2, (by first | exact noKeys rfl | exact ownKey | exact ptrKey | exact argKeys fun k hk => ⟨_, List.mem_cons_self, hk⟩), (by simp)⟩
  ·exact h.elim
 ·rename_i t _
  refine pass (F := aLoad TE t al) (fun K' k => by unfold ev; exact k) ?_
  unfold aLoad at h ⊢; split at h
  ·exact ⟨_, _, fun K' k => ⟨h.1, k⟩, h.2, (by first | exact noKeys rfl | exact ownKey | exact ptrKey | exact argKeys fun k hk => ⟨_, List.mem_cons_self, hk⟩), (by simp)⟩
  ·exact ⟨_, _, fun K' k => ⟨h.1, k⟩, h.2, (by first | exact noKeys rfl | exact ownKey | exact ptrKey | exact argKeys fun k hk => ⟨_, List.mem_cons_self, hk⟩), (by simp)⟩
  ·exact ⟨_, _, fun K' k => ⟨h.1, h.2.1, k⟩, h.2.2, (fun k hk => .inr (.inr (by rw [List.mem_singleton.1 hk]; exact h.2.1))), (by simp)⟩
  ·exact ⟨_, _, fun K' k => ⟨h.1, h.2.1, k⟩, h.2.2, (by first | exact noKeys rfl | exact ownKey | exact ptrKey | exact argKeys fun k hk => ⟨_, List.mem_cons_self, hk⟩), (by simp)⟩
  ·exact h.elim
 ·rename_i T _ _
  refine pass (F := aIdxA TE T al) (fun K' k => by unfold ev; exact k) ?_
  unfold aIdxA at h ⊢; split at h
  ·exact ⟨_, _, fun K' k => ⟨h.1, h.2.1, h.2.2.1, k⟩, h.2.2.2, (by first | exact noKeys rfl | exact ownKey | exact ptrKey | exact argKeys fun k hk => ⟨_, List.mem_cons_self, hk⟩), (by simp)⟩
  ·exact ⟨_, _, fun K' k => ⟨h.1, h.2.1, h.2.2.1, k⟩, h.2.2.2, (by first | exact noKeys rfl | exact ownKey | exact ptrKey | exact argKeys fun k hk => ⟨_, List.mem_cons_self, hk⟩), (by simp)⟩
  ·exact ⟨_, _, fun K' k => ⟨h.1, h.2.1, h.2.2.1, k⟩, h.2.2.2, (by first | exact noKeys rfl | exact ownKey | exact ptrKey | exact argKeys fun k hk => ⟨_, List.mem_cons_self, hk⟩), (by simp)⟩
  ·exact ⟨_, _, fun K' k => ⟨h.1, h.2.1, h.2.2.1, k⟩, h.2.2.2, (by first | exact noKeys rfl | exact ownKey | exact ptrKey | exact argKeys fun k hk => ⟨_, List.mem_cons_self, hk⟩), (by simp)⟩
  ·unfold arK at h ⊢; split at h
   ·rename_i e; exact ⟨_, _, fun K' k => by first | exact ⟨h.1, h.2.1, h.2.2.1, k⟩ | (rw [e]; exact ⟨h.1, h.2.1, h.2.2.1, k⟩), h.2.2.2, (by first | exact noKeys rfl | exact ownKey | exact ptrKey | exact argKeys fun k hk => ⟨_, List.mem_cons_self, hk⟩), (by simp)⟩
   ·exact h.elim
  ·exact h.elim
 ·rename_i T _ n
  refine pass (F := aFldA TE T n al) (fun K' k => by unfold ev; exact k) ?_
  unfold aFldA at h ⊢; split at h
  ·exact ⟨_, _, fun K' k => ⟨h.1, h.2.1, k⟩, h.2.2, (by first | exact noKeys rfl | exact ownKey | exact ptrKey | exact argKeys fun k hk => ⟨_, List.mem_cons_self, hk⟩), (by simp)⟩
  ·exact ⟨_, _, fun K' k => ⟨h.1, h.2.1, k⟩, h.2.2, (by first | exact noKeys rfl | exact ownKey | exact ptrKey | exact argKeys fun k hk => ⟨_, List.mem_cons_self, hk⟩), (by simp)⟩
  ·split at h
   ·rename_i e; exact ⟨_, _, fun K' k => by first | exact ⟨h.1, h.2.1, k⟩ | (rw [e]; exact ⟨h.1, h.2.1, k⟩), h.2.2, (by first | exact noKeys rfl | exact ownKey | exact ptrKey | exact argKeys fun k hk => ⟨_, List.mem_cons_self, hk⟩), (by simp)⟩
   ·exact h.elim
  ·exact h.elim
 ·rename_i T _ n
  refine pass (F := aFld TE T n al) (fun K' k => by unfold ev; exact k) ?_
  unfold aFld at h ⊢; split at h
  ·exact ⟨_, _, fun K' k => ⟨h.1, h.2.1, k⟩, h.2.2, (by first | exact noKeys rfl | exact ownKey | exact ptrKey | exact argKeys fun k hk => ⟨_, List.mem_cons_self, hk⟩), (by simp)⟩
  ·exact h.elim
 ·rename_i T _ _
  refine pass (F := aIdx TE T al) (fun K' k => by unfold ev; exact k) ?_
  unfold aIdx at h ⊢; split at h
  ·exact ⟨_, _, fun K' k => ⟨h.1, h.2.1, h.2.2.1, k⟩, h.2.2.2, (by first | exact noKeys rfl | exact ownKey | exact ptrKey | exact argKeys fun k hk => ⟨_, List.mem_cons_self, hk⟩), (by simp)⟩
  ·exact h.elim
 ·rename_i T _ lo hi
  refine pass (F := aSli TE T lo.isSome hi.isSome al) (fun K' k => by unfold ev; exact k) ?_
  unfold aSli at h ⊢; split at h
  ·obtain ⟨p, obs, r1, r2⟩ := roSl_ex h.2; exact ⟨p, obs, fun K' k => ⟨h.1, r1 K' k⟩, r2⟩
  ·obtain ⟨h1, h⟩ := h
   split at h
   ·rename_i e; obtain ⟨p, obs, r1, r2⟩ := roSl_ex h; exact ⟨p, obs, fun K' k => by first | exact ⟨h1, r1 K' k⟩ | (rw [e]; exact ⟨h1, r1 K' k⟩), r2⟩
   ·rename_i e; obtain ⟨p, obs, r1, r2⟩ := vwSl_ex h (as0 := _) List.mem_cons_self; exact ⟨p, obs, fun K' k => by first | exact ⟨h1, r1 K' k⟩ | (rw [e]; exact ⟨h1, r1 K' k⟩), r2⟩
  ·obtain ⟨p, obs, r1, r2⟩ := vwSl_ex' h.2 (as0 := _) List.mem_cons_self; exact ⟨p, obs, fun K' k => ⟨h.1, r1 K' k⟩, r2⟩
  ·exact h.elim
 ·rename_i T _ lo _ _
  refine pass (F := aSli3 TE T lo.isSome al) (fun K' k => by unfold ev; exact k) ?_
  unfold aSli3 at h ⊢; split at h
  ·obtain ⟨p, obs, r1, r2⟩ := roSl3_ex h.2; exact ⟨p, obs, fun K' k => ⟨h.1, r1 K' k⟩, r2⟩
  ·obtain ⟨p, obs, r1, r2⟩ := roSl3_ex h.2.2; exact ⟨p, obs, fun K' k => ⟨h.1, h.2.1, r1 K' k⟩, r2⟩
  ·exact h.elim
 ·rename_i T _ _
  refine pass (F := aMake TE key T al) (fun K' k => by unfold ev; exact k) ?_
  unfold aMake at h ⊢; split at h
  ·split at h
   ·rename_i e; exact ⟨_, _, fun K' k => by first | exact ⟨h.1, h.2.1, h.2.2.1, k⟩ | (rw [e]; exact ⟨h.1, h.2.1, h.2.2.1, k⟩), h.2.2.2, (by first | exact noKeys rfl | exact ownKey | exact ptrKey | exact argKeys fun k hk => ⟨_, List.mem_cons_self, hk⟩), (by simp)⟩
   ·exact h.elim
  ·exact h.elim
 ·rename_i e
  refine pass (F := aAlloc TE key e al) (fun K' k => by unfold ev; exact k) ?_
  unfold aAlloc at h ⊢; split at h
  ·split at h
   ·rename_i e; exact ⟨_, _, fun K' k => by first | exact ⟨h.1, k⟩ | (rw [e]; exact ⟨h.1, k⟩), h.2, (by first | exact noKeys rfl | exact ownKey | exact ptrKey | exact argKeys fun k hk => ⟨_, List.mem_cons_self, hk⟩), (by simp)⟩
   ·exact h.elim
  ·exact h.elim
 ·rename_i e _
  refine pass (F := aBox TE key e al) (fun K' k => by unfold ev; exact k) ?_
  unfold aBox at h ⊢; split at h
  ·split at h
   ·rename_i e; obtain ⟨y, y1, y2⟩ := shd_ex h.2; exact ⟨_, _, fun K' k => by first | exact ⟨h.1, y1 _ k⟩ | (rw [e]; exact ⟨h.1, y1 _ k⟩), y2, (by first | exact noKeys rfl | exact ownKey | exact ptrKey | exact argKeys fun k hk => ⟨_, List.mem_cons_self, hk⟩), (by simp)⟩
   ·exact h.elim
  ·exact h.elim
 ·rename_i T ps
  refine pass (F := aBld TE T (ps.toList.map (·.1)) al) (fun K' k => by unfold ev; exact k) ?_
  unfold aBld at h ⊢; split at h
  ·rename_i e; obtain ⟨y, y1, y2⟩ := bld_ex h; exact ⟨_, _, fun K' k => by first | exact y1 _ k | (rw [e]; exact y1 _ k), y2, (by first | exact noKeys rfl | exact ownKey | exact ptrKey | exact argKeys fun k hk => ⟨_, List.mem_cons_self, hk⟩), (by simp)⟩
  ·exact h.elim
 ·rename_i T n ps
  refine pass (F := aBldS TE key T n (ps.toList.map (·.1)) al) (fun K' k => by unfold ev; exact k) ?_
  unfold aBldS at h ⊢; split at h
  ·rename_i j e' t' hone
   split at h
   ·rename_i e
    have hal : ∃ x ∈ al, j ∈ x.1.keys := by
     unfold one1 at hone
     split at hone
     ·injection hone with hone; injection hone with q1 _; subst q1
      exact ⟨_, List.mem_cons_self, List.mem_cons_self⟩
     ·cases hone
    exact ⟨_, _, fun K' k => by first | exact ⟨h.1, k⟩ | (rw [hone, e]; exact ⟨h.1, k⟩) | (rw [e]; exact ⟨h.1, k⟩), h.2, (fun k hk => .inr (.inl (by rw [List.mem_singleton.1 hk]; exact hal))), (by simp)⟩
   ·exact h.elim
  rename_i hone
  split at h
  ·rename_i e; obtain ⟨y, y1, y2⟩ := lst_ex h.2.2.2; exact ⟨_, _, fun K' k => by first | exact ⟨h.1, h.2.1, h.2.2.1, y1 _ k⟩ | (rw [e]; exact ⟨h.1, h.2.1, h.2.2.1, y1 _ k⟩) | (rw [hone, e]; exact ⟨h.1, h.2.1, h.2.2.1, y1 _ k⟩), y2, (by first | exact noKeys rfl | exact ownKey | exact ptrKey | exact argKeys fun k hk => ⟨_, List.mem_cons_self, hk⟩), (by simp)⟩
  ·exact h.elim
 ·rename_i _ i
  refine pass (F := aExt i al) (fun K' k => by unfold ev; exact k) ?_
  unfold aExt at h ⊢; split at h
  ·split at h
   ·rename_i e; exact ⟨_, _, fun K' k => by first | exact k | (rw [e]; exact k), h, (argKeys fun k hk => ⟨_, List.mem_cons_self, nth_keys (by assumption) hk⟩), (by simp)⟩
   ·exact h.elim
  ·exact h.elim
 ·refine pass (F := aNilC al) (fun K' k => by unfold ev; exact k) ?_
  unfold aNilC at h ⊢; split at h
  ·exact ⟨_, _, fun K' k => k, h, (by first | exact noKeys rfl | exact ownKey | exact ptrKey | exact argKeys fun k hk => ⟨_, List.mem_cons_self, hk⟩), (by simp)⟩
  ·exact ⟨_, _, fun K' k => k, h, (by first | exact noKeys rfl | exact ownKey | exact ptrKey | exact argKeys fun k hk => ⟨_, List.mem_cons_self, hk⟩), (by simp)⟩
  ·exact ⟨_, _, fun K' k => k, h, (by first | exact noKeys rfl | exact ownKey | exact ptrKey | exact argKeys fun k hk => ⟨_, List.mem_cons_self, hk⟩), (by simp)⟩
  ·exact ⟨_, _, fun K' k => k, h, (by first | exact noKeys rfl | exact ownKey | exact ptrKey | exact argKeys fun k hk => ⟨_, List.mem_cons_self, hk⟩), (by simp)⟩
  ·exact h.elim
 ·rename_i T r
  refine pass (F := aMap TE key T al) (fun K' k => by unfold ev; exact k) ?_
  unfold aMap at h ⊢; split at h
  ·split at h
   ·rename_i e; exact ⟨_, _, fun K' k => by first | exact k | (rw [e]; exact k), h, ownKey, (by simp)⟩
   ·exact h.elim
  ·split at h
   ·rename_i e; exact ⟨_, _, fun K' k => by first | exact k | (rw [e]; exact k), h, ownKey, (by simp)⟩
   ·exact h.elim
  ·exact h.elim
 ·rename_i T _ _ ok
  refine pass (F := aLook TE T ok al) (fun K' k => by unfold ev; exact k) ?_
  unfold aLook at h ⊢; split at h
  ·obtain ⟨h1, h⟩ := h
   obtain ⟨z, z1, z2⟩ := shd_ex h
   split at z2
   ·rename_i e; exact ⟨_, _, fun K' k => ⟨h1, z1 _ (by first | exact k | (rw [if_pos e]; exact k))⟩, z2, (fun k hk => by simp [PV.keys] at hk), (by simp)⟩
   ·rename_i e; exact ⟨_, _, fun K' k => ⟨h1, z1 _ (by first | exact k | (rw [if_neg e]; exact k))⟩, z2, noKeys rfl, (by simp)⟩
  ·exact h.elim
 ·rename_i fn first _
  refine pass (F := aFn fn first.size al) (fun K' k => by unfold ev; exact k) ?_
  unfold aFn at h ⊢
  obtain ⟨z, z1, z2⟩ := tvs_ex h
  exact ⟨_, _, fun K' k => z1 _ k, z2, noKeys rfl, (by simp)⟩
 ·rename_i T _
  refine pass (F := aIfc TE T al) (fun K' k => by unfold ev; exact k) ?_
  unfold aIfc at h ⊢; split at h
  ·split at h
   ·rename_i e; obtain ⟨z, z1, z2⟩ := shd_ex h; exact ⟨_, _, fun K' k => by first | exact z1 _ k | (rw [e]; exact z1 _ k), z2, noKeys rfl, (by simp)⟩
   ·exact h.elim
  ·exact h.elim
 ·rename_i ts
  obtain ⟨h0, h⟩ := h
  refine pass (F := aLen TE (ts.getD 0 0) al) (fun K' k => by unfold ev; exact ⟨h0, k⟩) ?_
  unfold aLen at h ⊢; split at h
  ·exact ⟨_, _, fun K' k => ⟨h.1, k⟩, h.2, (by first | exact noKeys rfl | exact ownKey | exact ptrKey | exact argKeys fun k hk => ⟨_, List.mem_cons_self, hk⟩), (by simp)⟩
  ·exact ⟨_, _, fun K' k => ⟨h.1, k⟩, h.2, (by first | exact noKeys rfl | exact ownKey | exact ptrKey | exact argKeys fun k hk => ⟨_, List.mem_cons_self, hk⟩), (by simp)⟩
  ·exact ⟨_, _, fun K' k => ⟨h.1, k⟩, h.2, (by first | exact noKeys rfl | exact ownKey | exact ptrKey | exact argKeys fun k hk => ⟨_, List.mem_cons_self, hk⟩), (by simp)⟩
  ·exact ⟨_, _, fun K' k => ⟨h.1, k⟩, h.2, (by first | exact noKeys rfl | exact ownKey | exact ptrKey | exact argKeys fun k hk => ⟨_, List.mem_cons_self, hk⟩), (by simp)⟩
  ·exact ⟨_, _, fun K' k => ⟨h.1, k⟩, h.2, (by first | exact noKeys rfl | exact ownKey | exact ptrKey | exact argKeys fun k hk => ⟨_, List.mem_cons_self, hk⟩), (by simp)⟩
  ·split at h
   ·rename_i e; exact ⟨_, _, fun K' k => by first | exact k | (rw [e]; exact k), h, (by first | exact noKeys rfl | exact ownKey | exact ptrKey | exact argKeys fun k hk => ⟨_, List.mem_cons_self, hk⟩), (by simp)⟩
   ·exact h.elim
  ·exact ⟨_, _, fun K' k => ⟨h.1, k⟩, h.2, (by first | exact noKeys rfl | exact ownKey | exact ptrKey | exact argKeys fun k hk => ⟨_, List.mem_cons_self, hk⟩), (by simp)⟩
  ·exact h.elim
 ·refine pass (F := aMax al) (fun K' k => by unfold ev; exact k) ?_
  unfold aMax at h ⊢; split at h
  ·exact ⟨_, _, fun K' k => ⟨h.1, k⟩, h.2, (by first | exact noKeys rfl | exact ownKey | exact ptrKey | exact argKeys fun k hk => ⟨_, List.mem_cons_self, hk⟩), (by simp)⟩
  ·exact h.elim
 ·refine pass (F := aMin al) (fun K' k => by unfold ev; exact k) ?_
  unfold aMin at h ⊢; split at h
  ·exact ⟨_, _, fun K' k => ⟨h.1, k⟩, h.2, (by first | exact noKeys rfl | exact ownKey | exact ptrKey | exact argKeys fun k hk => ⟨_, List.mem_cons_self, hk⟩), (by simp)⟩
  ·exact h.elim
 ·exact h.elim
theorem rds_ex {TE : TypeId → Option Ty} {f : FS} : ∀ {xs : List Operand} {Ts : List TypeId} {K : List TV → Prop}, rds TE f xs Ts K → ∃ al, (∀ K' : List TV → Prop, K' al → rds TE f xs Ts K') ∧ K al
 | [], [], K, h => ⟨[], fun K' k => k, h⟩
 | x :: xs, T :: Ts, K, h => by
  unfold rds at h
  obtain ⟨y, y1, y2⟩ := rd1_ex h
  obtain ⟨al, a1, a2⟩ := rds_ex (xs := xs) (Ts := Ts) y2
  exact ⟨_, fun K' k => by unfold rds; exact y1 _ (a1 _ k), a2⟩
 | [], _ :: _, _, h => h.elim
 | _ :: _, [], _, h => h.elim
theorem cle_ex {P : Program} {f : FS} {cl : Callee} {K : FuncId → List TV → List TV → Prop} (h : cle P f cl K) : ∃ g pre post, (∀ K' : FuncId → List TV → List TV → Prop, K' g pre post → cle P f cl K') ∧ K g pre post := by
 unfold cle at h
 split at h
 ·split at h
  ·rename_i e; exact ⟨_, _, _, fun K' k => by unfold cle; simp only [e]; exact k, h⟩
  ·exact h.elim
 ·split at h
  ·rename_i e
   obtain ⟨g, h1, h2⟩ := h
   exact ⟨_, _, _, fun K' k => by unfold cle; simp only [e]; exact ⟨g, h1, k⟩, h2⟩
  ·exact h.elim
 ·exact h.elim
end Go.TT
end
section
namespace Go.TT
open Go.RowKit
set_option linter.unusedVariables false
set_option linter.unusedSimpArgs false
def dOk (N : Nat) : Option Nat → Prop
 | none => True
 | some d => d < N
def isBar : Op → Bool
 | .store _ _ _ => true
 | .mapUpdate _ _ _ _ => true
 | .call { callee := .builtin .append, args := _, argTypes := _ } => true
 | .call { callee := .builtin .copy, args := _, argTypes := _ } => true
 | _ => false
def fnOf : Op → Option (Callee × List Operand × List TypeId)
 | .call { callee := .value x, args := xs, argTypes := Ts } => some (.value x, xs.toList, Ts.toList)
 | .call { callee := .invoke x m, args := xs, argTypes := Ts } => some (.invoke x m, xs.toList, Ts.toList)
 | _ => none
def fAlI (TE : TypeId → Option Ty) (key : Nat) (e : TypeId) (f : FS) (d : Option Nat) (K : KF) : Prop := match TE e with
 | some (.sl e' t') => K ((((f.new (key + 2) ⟨e', t', [], true⟩).adopt (key + 2)).new key ⟨e, .id e' t', [od f.h], true⟩).put d (.ptr key 0 []))
 | some (.mp k t) => K (((⟨f.g, f.o, f.h + 1⟩ : FS).new key ⟨e, .id 0 (.mp k t), [od f.h], true⟩).put d (.ptr key 0 []))
 | _ => False
def mkI (N : Nat) (o : Oper) (f : FS) : Option TypeId := match o.op, o.dst with
 | .alloc e, some d => match f.g (N + d) with
  | .tnil => some e
  | _ => none
 | _, _ => none
def isBS : Op → Bool
 | .buildSlice _ _ _ => true
 | _ => false
def frzL (o : Oper) (obs : List Ob) : List Ob := if isBS o.op = true then obs.map Ob.froze else obs
def fEvD (TE : TypeId → Option Ty) (key : Nat) (o : Oper) (f : FS) (K : KF) : Prop := ev TE key o.op (o.op.operands.toList.map f.res) fun p obs => K ((f.news key (frzL o obs)).put o.dst p)
def stp (P : Program) (TE : TypeId → Option Ty) (N : Nat) (dr : Bool) (key : Nat) (o : Oper) (f : FS) (K : KF) : Prop :=
 dOk N o.dst ∧ match fnOf o.op with
  | some (fn, xs, Ts) => fCal P TE dr key o.dst fn xs Ts f K
  | none => if dr = true then (if isBar o.op = false then fEvD TE key o f K else full TE key o f K) else match mkI N o f with
   | some e => fAlI TE key e f o.dst K
   | none => full TE key o f K
def grd (ops : Array Oper) (o : Oper) (f : FS) (yes no : KF) : Prop :=
 match o.guard with
 | none => yes f
 | some (j, want) => match (ops[j]?).bind (·.dst) with
  | none => False
  | some t => match f.g t with
   | .ro .bool b => if (b : Bool) = true then (if want = true then yes (f.put (some t) (.ro .bool true)) else no (f.put (some t) (.ro .bool true)))
     else (if want = true then no (f.put (some t) (.ro .bool false)) else yes (f.put (some t) (.ro .bool false)))
   | .tnil => no f
   | _ => False
def rgn (P : Program) (TE : TypeId → Option Ty) (N : Nat) (dr : Bool) (ops : Array Oper) : Nat → List Oper → FS → KF → Prop
 | _, [], f, K => K f
 | key, o :: l, f, K => grd ops o f (fun f => stp P TE N dr key o f fun f' => rgn P TE N dr ops (key + 8) l f' K) (fun f => dOk N o.dst ∧ rgn P TE N dr ops (key + 8) l (f.put o.dst .tnil) K)
theorem fnOf_some {op : Op} {cl : Callee} {xs : List Operand} {Ts : List TypeId} (h : fnOf op = some (cl, xs, Ts)) : ∃ xs' Ts', op = .call { callee := cl, args := xs', argTypes := Ts' } ∧ xs'.toList = xs ∧ Ts'.toList = Ts ∧ ∀ x ∈ clX cl, x ∈ op.operands.toList := by
 unfold fnOf at h
 split at h
 ·injection h with h; injection h with h1 h2; injection h2 with h2 h3
  subst h1
  exact ⟨_, _, rfl, h2, h3, fun x hx => by rw [List.mem_singleton.1 hx]; simp [Op.operands, Call.operands]⟩
 ·injection h with h; injection h with h1 h2; injection h2 with h2 h3
  subst h1
  exact ⟨_, _, rfl, h2, h3, fun x hx => by rw [List.mem_singleton.1 hx]; simp [Op.operands, Call.operands]⟩
 ·cases h
section
variable {P : Program} {TE : TypeId → Option Ty} {n0 : Nat → Prop} {w0 : World} {S0 : Nat → Prop} {N : Nat} {Fk : Nat → Prop} {f : FS} {a : Act} {w w' : World} {S S' : Nat → Prop} {V V' : Nat → Value} {key : Nat} {K : KF}
theorem dOk_lt {d : Option Nat} (h : dOk N d) : ∀ i, d = some i → i < N := fun i e => by rw [e] at h; exact h
theorem Does.wp {o : Oper} (h : Does P n0 w0 S0 N Fk K a w o) (hd : ∀ c, o.op ≠ .defer c) {next : Act → World → Prop} {Q : Exit → Act → World → Prop} (hn : ∀ v w', Step n0 w0 S0 N Fk K (a.put o.dst v) w' → next (a.put o.dst v) w') (r : Option Nat) (n : Nat) : o.wpIn (rnd r) n P a w next Q := by
 refine ⟨fun _ _ => trivial, ?_⟩
 rw [Oper.semAt_eq _ _ _ hd]
 rcases h with ⟨v, w', h1, h2⟩ | ⟨w', h1, h2⟩
 ·rw [h1]; exact hn _ _ h2
 ·rw [h1]; exact hn _ _ h2
theorem fAlI_ok (hTE : ∀ e t, TE e = some t → TyOk P t e) (h : RelC n0 w0 S0 N Fk f a w S V) (hk : Fk key) (hk2 : Fk (key + 2)) {o : Oper} {e : TypeId} (ho : o.op = .alloc e) (hd : ∀ i, o.dst = some i → i < N) (he : fAlI TE key e f o.dst K) : Does P n0 w0 S0 N (lessK Fk key) K a w o := by
 unfold fAlI at he
 split at he
 case h_3 => exact he.elim
 case h_2 =>
  rename_i kt vt hte
  have hT := hTE _ _ hte
  obtain ⟨i, z, i1, i2, i3, i4, i5⟩ := hT.info.ex
  have hrun : (execOp a.eval o).run P w = .ok (.value (.pointer (some ⟨w.heap.size, 0, none⟩))) (w.alloc (.cells z.cells e)) := by
   simp [execOp, ho, Instr.alloc, zeroValue, typeInfo, i1, i2, newVar, newRow]
  have hg := h.grow (below_new w (.cells z.cells e))
  have h2 := hg.bump (.map none)
  have h3 := h2.new (k := key) (o := ⟨e, .id 0 (.mp kt vt), [od f.h], true⟩) (v := .slice (some ⟨w.heap.size, 0, none⟩) 1 1) hk (by
    have hc : z.cells.toList = [.map none] := i3
    rw [OR_id]
    have := World.ownsRow_lit w (e := e) (size := 1) z.cells 1 (Nat.zero_le _) (by simp [maxLen]) (by rw [← Array.length_toList, hc]; rfl)
    rw [hc] at this
    have e5 : List.map (upd V (od f.h) (.map none)) [od f.h] = [.map none] := by simp [upd]
    show World.ownsRow _ 0 e 1 _ 1 (List.map _ [od f.h])
    rw [← e5] at this
    exact this)
   (fun i hi => ⟨f.h, Nat.lt_succ_self _, by simpa [idsOf] using hi⟩)
   (fun _ b hb => by
    have hb : b = w.heap.size := by
     have hb : some w.heap.size = some b := hb
     injection hb with hb; exact hb.symm
    subst hb
    refine ⟨h.size _ (Nat.le_refl _), fun hs => Nat.lt_irrefl _ (h.lt _ hs), fun k' o' q hm q2 => ?_⟩
    have q : f.o k' = some o' := q
    have q6 : upd V (od f.h) (.map none) k' = V k' := by
     unfold upd; rw [if_neg]; intro q3
     rw [q3, h.fr _ (.inr ⟨f.h, Nat.le_refl _, rfl⟩)] at q; cases q
    rw [q6] at q2
    exact Nat.lt_irrefl _ (h.ow k' o' q hm _ q2).2)
  have h4 := h3.put (p := .ptr key 0 []) (v := .pointer (some ⟨w.heap.size, 0, none⟩)) (fun n t q => by
    have q : some (1, Ty.id 0 (.mp kt vt)) = some (n, t) := by
     rw [← q]; simp [FS.sh, FS.new, upd, Ob.ln]
    injection q with q
    injection q with q1 q2
    subst q1 q2
    refine ⟨Int.le_refl _, by omega, ⟨w.heap.size, 0, none⟩, 1, 1, (0, .id 0 (.mp kt vt)), by simp [upd], by unfold Ty.off; rfl, ?_⟩
    simp [Addr.add])
   (fun j hj => by
    have hj : j = key := by simpa [PV.keys] using hj
    subst hj
    rintro (q | ⟨i, q1, q2⟩)
    ·exact q.2 rfl
    ·have := h.fe _ hk; unfold od at q2; omega) o.dst hd
  exact .inl ⟨_, _, hrun, _, _, _, he, h4.keys fun k hk' => ⟨hk'.1, fun q => hk'.2 (by omega)⟩⟩
 rename_i e' t' hte
 have hT := hTE _ _ hte
 obtain ⟨i, z, i1, i2, i3, i4, i5⟩ := hT.info.ex
 unfold TyOk at hT
 have hrow := hT.2.2.2.2
 have hrun : (execOp a.eval o).run P w = .ok (.value (.pointer (some ⟨w.heap.size, 0, none⟩))) (w.alloc (.cells z.cells e)) := by
  simp [execOp, ho, Instr.alloc, zeroValue, typeInfo, i1, i2, newVar, newRow]
 have hg := h.grow (below_new w (.cells z.cells e))
 have h1 := hg.new (k := key + 2) (o := ⟨e', t', [], true⟩) (v := .slice none 0 0) hk2 (OR_nil hrow) (nids hrow) (fun _ b hb => by cases hb)
 have e1 : (f.new (key + 2) ⟨e', t', [], true⟩).o (key + 2) = some ⟨e', t', [], true⟩ := by simp [FS.new, upd]
 have h2 := h1.adopt e1
 rw [adopt_eq e1] at he
 have hVn : (upd V (key + 2) (.slice none 0 0)) (key + 2) = .slice none 0 0 := by simp [upd]
 rw [hVn] at h2
 have hev := h.fe _ hk
 have hev2 := h.fe _ hk2
 have h3 := h2.new (k := key) (o := ⟨e, .id e' t', [od f.h], true⟩) (v := .slice (some ⟨w.heap.size, 0, none⟩) 1 1) ⟨hk, by omega⟩ (by
   have hc : z.cells.toList = [.slice none 0 0] := i3
   rw [OR_id]
   have := World.ownsRow_lit w (e := e) (size := 1) z.cells 1 (Nat.zero_le _) (by simp [maxLen]) (by rw [← Array.length_toList, hc]; rfl)
   rw [hc] at this
   have e5 : List.map (upd (upd V (key + 2) (.slice none 0 0)) (od f.h) (.slice none 0 0)) [od f.h] = [.slice none 0 0] := by simp [upd]
   show World.ownsRow _ 0 e 1 _ 1 (List.map _ [od f.h])
   rw [← e5] at this
   exact this)
  (fun i hi => ⟨f.h, Nat.lt_succ_self _, by simpa [idsOf] using hi⟩)
  (fun _ b hb => by
   have hb : b = w.heap.size := by
    have hb : some w.heap.size = some b := hb
    injection hb with hb; exact hb.symm
   subst hb
   refine ⟨h.size _ (Nat.le_refl _), fun hs => Nat.lt_irrefl _ (h.lt _ hs), fun k' o' q hm q2 => ?_⟩
   have q : upd (upd (upd f.o (key + 2) (some ⟨e', t', [], true⟩)) (key + 2) none) (od f.h) (some ⟨e', t', [], true⟩) k' = some o' := q
   have q2 : blk (upd (upd V (key + 2) (.slice none 0 0)) (od f.h) (.slice none 0 0) k') = some w.heap.size := q2
   by_cases q3 : k' = od f.h
   ·have q6 : upd (upd V (key + 2) (.slice none 0 0)) (od f.h) (.slice none 0 0) k' = .slice none 0 0 := by simp [upd, q3]
    rw [q6] at q2; cases q2
   ·by_cases q4 : k' = key + 2
    ·have q5 : upd (upd (upd f.o (key + 2) (some ⟨e', t', [], true⟩)) (key + 2) none) (od f.h) (some ⟨e', t', [], true⟩) k' = none := by
      unfold upd
      rw [if_neg q3, if_pos q4]
     rw [q5] at q; cases q
    ·have q5 : f.o k' = some o' := by simpa [upd, q3, q4] using q
     have q6 : upd (upd V (key + 2) (.slice none 0 0)) (od f.h) (.slice none 0 0) k' = V k' := by simp [upd, q3, q4]
     rw [q6] at q2
     exact Nat.lt_irrefl _ (h.ow k' o' q5 hm _ q2).2)
 have hkk : key ≠ od f.h := fun q => by unfold od at q; omega
 have h4 := h3.put (p := .ptr key 0 []) (v := .pointer (some ⟨w.heap.size, 0, none⟩)) (fun n t q => by
   have q : some (1, Ty.id e' t') = some (n, t) := by
    rw [← q]; simp [FS.sh, FS.new, upd, Ob.ln]
   injection q with q
   injection q with q1 q2
   subst q1 q2
   refine ⟨Int.le_refl _, by omega, ⟨w.heap.size, 0, none⟩, 1, 1, (0, .id e' t'), by simp [upd], by unfold Ty.off; rfl, ?_⟩
   simp [Addr.add])
  (fun j hj => by
   have hj : j = key := by simpa [PV.keys] using hj
   subst hj
   rintro (q | ⟨i, q1, q2⟩)
   ·exact q.2 rfl
   ·unfold od at q2; omega) o.dst hd
 exact .inl ⟨_, _, hrun, _, _, _, he, h4.keys fun k hk' => ⟨⟨hk'.1, fun q => hk'.2 (by omega)⟩, fun q => hk'.2 (by omega)⟩⟩
theorem news_frz1 {f : FS} {key : Nat} {o : Ob} : (f.news key [o]).frz key = f.news key [o.froze] := by
 unfold FS.frz FS.news FS.news FS.new
 have : (upd f.o key (some o)) key = some o := by simp [upd]
 simp only [this, FS.set]
 congr 1
 funext i
 unfold upd
 split <;> rfl
theorem froze_sh {f : FS} {key : Nat} {o : Ob} : (f.news key [o.froze]).sh = (f.news key [o]).sh := by
 funext k
 simp only [FS.sh, FS.news, FS.new, upd]
 split
 ·show some (o.froze.ln, o.froze.t) = some (o.ln, o.t)
  rw [froze_ln, froze_t]
 ·rfl
theorem fEvD_ok (hTE : ∀ e t, TE e = some t → TyOk P t e) (h : RelC n0 w0 S0 N Fk f a w S V) (hk : Fk key) (o : Oper) (hd : ∀ i, o.dst = some i → i < N) (he : fEvD TE key o f K) :
  ∃ v w', (execOp a.eval o).run P w = .ok (.value v) w' ∧ Step n0 w0 S0 N (lessK Fk key) K (a.put o.dst v) w' := by
 unfold fEvD at he
 obtain ⟨p, obs, e1, e2, _, e4⟩ := ev_ex he
 have he : ev TE key o.op (o.op.operands.toList.map f.res) fun p' obs' => p' = p ∧ obs' = obs := e1 _ ⟨rfl, rfl⟩
 obtain ⟨v, w', h1, p', obs', v', w2, S', V', ⟨rfl, rfl⟩, h3, h4, h5, h6⟩ := ev_ok (P := P) hTE h hk o he
 injection h3 with q1 q2; subst q1 q2
 have fin : ∀ {obs2 : List Ob} {S2 : Nat → Prop}, K ((f.news key obs2).put o.dst p') → RelC n0 w0 S0 N (lessK Fk key) (f.news key obs2) a w' S2 V' → PVr w' S2 V' (f.news key obs2).sh p' v → Step n0 w0 S0 N (lessK Fk key) K (a.put o.dst v) w' := fun {obs2 S2} e h4 h5 =>
  ⟨_, _, _, e, h4.put h5 (fun k hk => by rw [show Fr (lessK Fk key) (f.news key obs2) k = Fr (lessK Fk key) f k by unfold Fr; rw [news_h]]; exact h6 k hk) o.dst hd⟩
 refine ⟨v, w', h1, ?_⟩
 unfold frzL at e2
 split at e2
 ·rcases obs' with _ | ⟨o1, _ | ⟨o2, obs'⟩⟩
  ·exact fin e2 h4 h5
  ·obtain ⟨S2, h7, h8⟩ := h4.frz' key
   rw [news_frz1] at h7
   refine fin e2 h7 ?_
   have : (f.news key (List.map Ob.froze [o1])).sh = (f.news key [o1]).sh := froze_sh
   rw [this]
   exact PVr_mono h8 (fun _ _ => rfl) (fun k _ => ⟨fun _ q => q, rfl⟩) h5
  ·simp at e4
 ·exact fin e2 h4 h5
theorem stp_ok (hTE : ∀ e t, TE e = some t → TyOk P t e) (h : RelC n0 w0 S0 N Fk f a w S V) (hk : ∀ i, i < 4 → Fk (key + 2 * i)) {o : Oper} {dr : Bool} (he : stp P TE N dr key o f K) {next : Act → World → Prop} {Q : Exit → Act → World → Prop}
  (hn : ∀ v w', Step n0 w0 S0 N (lessK Fk key) K (a.put o.dst v) w' → next (a.put o.dst v) w') (r : Option Nat) (n : Nat) : o.wpIn (rnd r) n P a w next Q := by
 obtain ⟨hd, he⟩ := he
 have hd := dOk_lt hd
 split at he
 ·rename_i fn xs Ts hf
  obtain ⟨xs', Ts', h1, rfl, rfl, _⟩ := fnOf_some hf
  exact fCal_ok hTE h hk h1 hd he hn r n
 ·split at he
  ·split at he
   ·exact Does.wp (.inl (fEvD_ok hTE h (hk 0 (by omega)) o hd he)) (fun c e => by unfold fEvD at he; rw [e] at he; exact he.elim) hn r n
   ·exact (full_ok hTE h (hk 0 (by omega)) o hd he).wp (fun c e => by unfold full at he; rw [e] at he; simp only [fEv, e, ev] at he) hn r n
  ·split at he
   ·rename_i e hm
    have hop : o.op = .alloc e := by
     unfold mkI at hm
     split at hm
     ·rename_i e1 d e2 e3
      split at hm
      ·injection hm with hm; rw [← hm]; exact e2
      ·cases hm
     ·cases hm
    exact (fAlI_ok hTE h (hk 0 (by omega)) (hk 1 (by omega)) hop hd he).wp (fun c e => by rw [hop] at e; cases e) hn r n
   ·exact (full_ok hTE h (hk 0 (by omega)) o hd he).wp (fun c e => by unfold full at he; rw [e] at he; simp only [fEv, e, ev] at he) hn r n
def gOk (ops : Array Oper) (o : Oper) (f : FS) : Option Bool :=
 match o.guard with
 | none => some true
 | some (j, want) => match (ops[j]?).bind (·.dst) with
  | none => none
  | some t => match f.g t with
   | .ro .bool b => some ((b : Bool) == want)
   | .tnil => some false
   | _ => none
theorem put_self {t : Nat} {p : PV} (h : f.g t = p) : f.put (some t) p = f := by
 obtain ⟨g, o⟩ := f
 simp only [FS.put]
 congr 1
 funext i
 unfold upd
 split
 ·rename_i e; rw [e]; exact h.symm
 ·rfl
theorem grd_out {ops : Array Oper} {o : Oper} {yes no : KF} (h : grd ops o f yes no) : (gOk ops o f = some true ∧ yes f) ∨ (gOk ops o f = some false ∧ no f) := by
 revert h
 unfold grd gOk
 rcases o.guard with _ | ⟨j, want⟩
 ·exact fun h => .inl ⟨rfl, h⟩
 ·simp only
  rcases (ops[j]?).bind (·.dst) with _ | t
  ·exact fun h => h.elim
  ·simp only
   rcases hp : f.g t with _ | ⟨ty, b⟩ | _ | _ | _ | _ | _ | _ | _ | _ <;> first | exact fun h => h.elim | exact fun h => .inr ⟨rfl, h⟩ | skip
   cases ty <;> try exact fun h => h.elim
   simp only
   intro h
   revert h hp
   cases b with
   | true =>
    intro hp h
    rw [if_pos rfl, put_self hp] at h
    cases want with
    | true => exact .inl ⟨rfl, h⟩
    | false => exact .inr ⟨rfl, h⟩
   | false =>
    intro hp h
    rw [if_neg (by simp), put_self hp] at h
    cases want with
    | true => exact .inr ⟨rfl, h⟩
    | false => exact .inl ⟨rfl, h⟩
theorem gOk_wanted (h : RelC n0 w0 S0 N Fk f a w S V) {ops : Array Oper} {o : Oper} {c : Bool} (hg : gOk ops o f = some c) : Region.wanted o (yielded ops a.tmps) = c := by
 unfold gOk at hg
 unfold Region.wanted
 split at hg
 ·rename_i e; rw [e]; injection hg
 ·rename_i j want e
  rw [e]
  split at hg
  ·cases hg
  ·rename_i t ht
   split at hg
   ·rename_i b hb
    injection hg with hg
    have hs := h.sl t
    rw [hb] at hs
    have hs := Vs_bool.1 hs
    have hy : yielded ops a.tmps j = some b := by
     unfold yielded
     rw [ht]
     simp only [Option.bind_some]
     rcases h' : a.tmps[t]? with _ | v
     ·have : a.tmps.getD t undef = undef := by simp [h']
      rw [this] at hs
      cases hs
     ·have : a.tmps.getD t undef = v := by simp [h']
      rw [this] at hs
      rw [hs]
    show (yielded ops a.tmps j == some want) = c
    rw [hy, ← hg]
    cases (b : Bool) <;> cases want <;> rfl
   ·rename_i hb
    injection hg with hg
    have hs := h.sl t
    rw [hb] at hs
    have hs : a.tmps.getD t undef = .tuple #[] := hs
    have hy : yielded ops a.tmps j = none := by
     unfold yielded
     rw [ht]
     simp only [Option.bind_some]
     rcases h' : a.tmps[t]? with _ | v
     ·rfl
     ·have : a.tmps.getD t undef = v := by simp [h']
      rw [this] at hs
      rw [hs]
    show (yielded ops a.tmps j == some want) = c
    rw [hy, ← hg]
    rfl
   ·cases hg
theorem bot_put (h : RelC n0 w0 S0 N Fk f a w S V) {d : Option Nat} (hd : dOk N d) : RelC n0 w0 S0 N Fk (f.put d .tnil) (a.put d undef) w S V := h.put (p := .tnil) rfl (fun k hk => by cases hk) d (dOk_lt hd)
theorem rgn_ok (hTE : ∀ e t, TE e = some t → TyOk P t e) {ops : Array Oper} {Q : Exit → Act → World → Prop} {r : Option Nat} {n : Nat} {U : Act → Prop} : ∀ {l : List Oper} {key : Nat} {f : FS} {a : Act} {w : World} {S : Nat → Prop} {V : Nat → Value}, key % 2 = 0 → RelC n0 w0 S0 N (Fe key) f a w S V → rgn P TE N false ops key l f K →
  U a → (∀ o ∈ l, ∀ a v, U a → U (a.put o.dst v)) → (∀ a' w', Step n0 w0 S0 N (Fe (key + 8 * l.length)) K a' w' → U a' → Q .normal a' w') → wpListIn (rnd r) n P ops Q l a w
 | [], key, f, a, w, S, V, _, h, he, hu, _, hQ => hQ a w ⟨f, S, V, he, h⟩ hu
 | o :: l, key, f, a, w, S, V, hev, h, he, hu, hU, hQ => by
  have hU' : ∀ o ∈ l, ∀ a v, U a → U (a.put o.dst v) := fun o ho => hU o (List.mem_cons_of_mem _ ho)
  have hQ' : ∀ a' w', Step n0 w0 S0 N (Fe (key + 8 + 8 * l.length)) K a' w' → U a' → Q .normal a' w' := fun a' w' hs => hQ a' w' (hs.keys fun k hk => by rw [List.length_cons] at hk; exact ⟨by have := hk.1; omega, hk.2⟩)
  unfold wpListIn
  rcases grd_out he with ⟨hg, he⟩ | ⟨hg, hd, he⟩
  ·rw [if_pos (gOk_wanted h hg)]
   refine stp_ok hTE h (fun i hi => ⟨by omega, by omega⟩) he (fun v w' ⟨f', S', V', hK, hr⟩ => ?_) r n
   exact rgn_ok hTE (by omega) (hr.keys fun k hk => ⟨⟨by have := hk.1; omega, hk.2⟩, by have := hk.1; omega⟩) hK (hU o List.mem_cons_self _ _ hu) hU' hQ'
  ·rw [if_neg (by rw [gOk_wanted h hg]; simp)]
   exact ⟨fun _ _ => trivial, rgn_ok hTE (by omega) ((bot_put h hd).keys fun k hk => ⟨by have := hk.1; omega, hk.2⟩) he (hU o List.mem_cons_self _ _ hu) hU' hQ'⟩
end
end Go.TT
end
section
namespace Go.TT
open Go.RowKit
set_option linter.unusedVariables false
set_option linter.unusedSimpArgs false
def omask (o : Oper) (acc : List Nat) : Nat := o.after.toList.foldl (fun s e => if Region.binds .any e then s ||| 2 ^ e.on ||| acc.getD e.on 0 else s) 0
def masks : List Oper → List Nat → List Nat
 | [], acc => acc
 | o :: l, acc => masks l (acc ++ [omask o acc])
def isPS : Op → Bool
 | .move _ => true
 | .assign _ => true
 | .binOp _ _ _ _ _ => true
 | _ => false
def isSto : Op → Bool
 | .store _ _ _ => true
 | _ => false
def confl (ops : Array Oper) (o p : Oper) : Bool := if ((isSto o.op && isPS p.op) || (isPS o.op && isSto p.op)) = true then !(o.apart ops p) else isBar o.op || isBar p.op || !(o.apart ops p)
def ordOK (ops : Array Oper) : Bool :=
 let ms := masks ops.toList []
 (List.range ops.size).all fun j => match ops[j]? with
  | none => true
  | some oj => (oj.after.toList.all fun e => !Region.binds .any e || decide (e.on < j)) &&
   (List.range j).all fun i => match ops[i]? with
    | none => true
    | some oi => !confl ops oi oj || (ms.getD j 0).testBit i
inductive Anc (ops : Array Oper) : Nat → Nat → Prop
 | edge {j : Nat} {o : Oper} {e : Edge} : ops[j]? = some o → e ∈ o.after → Region.binds .any e = true → Anc ops j e.on
 | trans {j i : Nat} {o : Oper} {e : Edge} : ops[j]? = some o → e ∈ o.after → Region.binds .any e = true → Anc ops e.on i → Anc ops j i
theorem foldl_bit {acc : List Nat} : ∀ (l : List Edge) (s i : Nat), (l.foldl (fun s e => if Region.binds .any e then s ||| 2 ^ e.on ||| acc.getD e.on 0 else s) s).testBit i = true →
  s.testBit i = true ∨ ∃ e ∈ l, Region.binds .any e = true ∧ (i = e.on ∨ (acc.getD e.on 0).testBit i = true)
 | [], s, i, h => .inl h
 | e :: l, s, i, h => by
  rw [List.foldl_cons] at h
  rcases foldl_bit l _ i h with h | ⟨e', h1, h2⟩
  ·split at h
   ·rename_i hb
    rw [Nat.testBit_or, Nat.testBit_or, Bool.or_eq_true, Bool.or_eq_true, Nat.testBit_two_pow] at h
    rcases h with (h | h) | h
    ·exact .inl h
    ·exact .inr ⟨e, List.mem_cons_self, hb, .inl (of_decide_eq_true h).symm⟩
    ·exact .inr ⟨e, List.mem_cons_self, hb, .inr h⟩
   ·exact .inl h
  ·exact .inr ⟨e', List.mem_cons_of_mem _ h1, h2⟩
theorem masks_ok {ops : Array Oper} : ∀ (l : List Oper) (acc : List Nat), (∀ k o, l[k]? = some o → ops[acc.length + k]? = some o) → (∀ j m i, acc[j]? = some m → m.testBit i = true → Anc ops j i) →
  ∀ j m i, (masks l acc)[j]? = some m → m.testBit i = true → Anc ops j i
 | [], acc, _, h => h
 | o :: l, acc, hl, h => by
  refine masks_ok l _ (fun k o' e => ?_) (fun j m i e hb => ?_)
  ·rw [List.length_append, List.length_singleton, Nat.add_assoc, Nat.add_comm 1 k]; exact hl (k + 1) o' e
  ·by_cases hj : j < acc.length
   ·rw [List.getElem?_append_left hj] at e; exact h j m i e hb
   ·rw [List.getElem?_append_right (by omega)] at e
    have hj' : j - acc.length = 0 := by
     rcases Nat.lt_or_ge (j - acc.length) 1 with q | q
     ·omega
     ·rw [List.getElem?_eq_none (by simpa using q)] at e; cases e
    rw [hj'] at e
    have e : some (omask o acc) = some m := e
    injection e with e; subst e
    have hjl : j = acc.length := by omega
    subst hjl
    have ho := hl 0 o rfl
    rw [Nat.add_zero] at ho
    rcases foldl_bit _ _ _ hb with hb | ⟨e, h1, h2, h3⟩
    ·simp at hb
    ·have he : e ∈ o.after := by simpa using h1
     rcases h3 with rfl | h3
     ·exact .edge ho he h2
     ·have : ∃ m, acc[e.on]? = some m ∧ m.testBit i = true := by
       rcases q : acc[e.on]? with _ | m
       ·rw [List.getD, q] at h3; simp at h3
       ·rw [List.getD, q] at h3; exact ⟨m, rfl, h3⟩
      obtain ⟨m, m1, m2⟩ := this
      exact .trans ho he h2 (h _ _ _ m1 m2)
theorem ordOK_out {ops : Array Oper} (h : ordOK ops = true) {j : Nat} {oj : Oper} (hj : ops[j]? = some oj) : (∀ e ∈ oj.after, Region.binds .any e = true → e.on < j) ∧ ∀ i oi, i < j → ops[i]? = some oi → confl ops oi oj = true → Anc ops j i := by
 have hlt : j < ops.size := (Array.getElem?_eq_some_iff.1 hj).1
 have := List.all_eq_true.1 h j (List.mem_range.2 hlt)
 simp only [hj, Bool.and_eq_true] at this
 obtain ⟨h1, h2⟩ := this
 refine ⟨fun e he hb => ?_, fun i oi hi ho hc => ?_⟩
 ·have := List.all_eq_true.1 h1 e (by simpa using he)
  simpa [hb] using this
 ·have := List.all_eq_true.1 h2 i (List.mem_range.2 hi)
  simp only [ho, hc, Bool.not_true, Bool.false_or] at this
  have hm : ∃ m, (masks ops.toList [])[j]? = some m ∧ m.testBit i = true := by
   rcases q : (masks ops.toList [])[j]? with _ | m
   ·rw [List.getD, q] at this; simp at this
   ·rw [List.getD, q] at this; exact ⟨m, rfl, this⟩
  obtain ⟨m, m1, m2⟩ := hm
  exact masks_ok ops.toList [] (fun k o e => by simpa using e) (fun j m i e _ => by cases e) j m i m1 m2
def Closed (ops : Array Oper) (listed : Array Bool) : Prop := ∀ j o, listed.getD j false = true → ops[j]? = some o → ∀ e ∈ o.after, Region.binds .any e = true → listed.getD e.on false = true
theorem Closed.anc {ops : Array Oper} {listed : Array Bool} (h : Closed ops listed) : ∀ {j i : Nat}, Anc ops j i → listed.getD j false = true → listed.getD i false = true := by
 intro j i ha
 induction ha with
 | edge ho he hb => exact fun hj => h _ _ hj ho _ he hb
 | trans ho he hb _ ih => exact fun hj => ih (h _ _ hj ho _ he hb)
theorem Closed.anc' {ops : Array Oper} {listed : Array Bool} (h : Closed ops listed) {j i : Nat} (ha : Anc ops j i) (hr : ∀ o, ops[j]? = some o → ∀ e ∈ o.after, Region.binds .any e = true → listed.getD e.on false = true) : listed.getD i false = true := by
 cases ha with
 | edge ho he hb => exact hr _ ho _ he hb
 | trans ho he hb h2 => exact h.anc h2 (hr _ ho _ he hb)
def Fre (P : Program) (TE : TypeId → Option Ty) (N : Nat) (ops : Array Oper) (key : Nat) (o : Oper) (f : FS) (p : PV) (obs : List Ob) : Prop :=
 dOk N o.dst ∧ obs.length ≤ 4 ∧ (∀ k ∈ p.keys, (key ≤ k ∧ k < key + 8) ∨ (∃ x ∈ o.op.operands.toList, k ∈ (f.op x).keys) ∨ k % 2 = 1) ∧
 ((gOk ops o f = some true ∧ match fnOf o.op with
  | some (cl, xs, Ts) => ∃ g pre post al rs, (∀ K' : FuncId → List TV → List TV → Prop, K' g pre post → cle P f cl K') ∧ (∀ K' : List TV → Prop, K' al → rds TE f xs Ts K') ∧ Con P g (pre ++ (al ++ post)) rs ∧ (flatR rs = true ∨ noOwn f xs) ∧ p = pvOf (pvsOf key rs) ∧ obs = obsOf rs
  | none => ∃ obs0, obs = frzL o obs0 ∧ ∀ K' : KK, K' p obs0 → ev TE key o.op (o.op.operands.toList.map f.res) K') ∨ (gOk ops o f = some false ∧ p = .tnil ∧ obs = []))
theorem fn_operands {op : Op} {cl : Callee} {xs : List Operand} {Ts : List TypeId} (h : fnOf op = some (cl, xs, Ts)) : (∀ x ∈ xs, x ∈ op.operands.toList) ∧ ∀ x ∈ clX cl, x ∈ op.operands.toList := by
 obtain ⟨xs', Ts', rfl, rfl, rfl, hc⟩ := fnOf_some h
 refine ⟨fun x hx => ?_, hc⟩
 simp only [Op.operands, Call.operands, Array.toList_append, List.mem_append]
 exact .inr hx
theorem cle_congr {P : Program} {f f' : FS} {cl : Callee} {K : FuncId → List TV → List TV → Prop} (hx : ∀ x ∈ clX cl, f'.res x = f.res x) (h : cle P f cl K) : cle P f' cl K := by
 cases cl with
 | value x => unfold cle at h ⊢; simp only [hx x (List.mem_singleton.2 rfl)]; exact h
 | invoke x m => unfold cle at h ⊢; simp only [hx x (List.mem_singleton.2 rfl)]; exact h
 | builtin b => exact h.elim
theorem rds_congr {TE : TypeId → Option Ty} {f f' : FS} : ∀ {xs : List Operand} {Ts : List TypeId} {K : List TV → Prop}, (∀ x ∈ xs, f'.res x = f.res x) → rds TE f xs Ts K → rds TE f' xs Ts K
 | [], [], K, _, h => h
 | x :: xs, T :: Ts, K, hx, h => by
  unfold rds at h ⊢
  rw [hx x List.mem_cons_self]
  obtain ⟨y, y1, y2⟩ := rd1_ex h
  exact y1 _ (rds_congr (fun z hz => hx z (List.mem_cons_of_mem _ hz)) y2)
 | [], _ :: _, _, _, h => h.elim
 | _ :: _, [], _, _, h => h.elim
theorem noOwn_congr {f f' : FS} : ∀ {xs : List Operand}, (∀ x ∈ xs, f'.res x = f.res x) → noOwn f xs → noOwn f' xs
 | [], _, _ => trivial
 | x :: xs, hx, h => ⟨by rw [hx x List.mem_cons_self]; exact h.1, noOwn_congr (fun z hz => hx z (List.mem_cons_of_mem _ hz)) h.2⟩
theorem frz_self {f : FS} {j : Nat} (h : ∀ o, f.o j = some o → o.mu = false) : f.frz j = f := by
 unfold FS.frz
 split
 ·rename_i o e
  rw [frz_same (h o e), set_self e]
 ·rfl
theorem fzo_self {f : FS} : ∀ {xs : List Operand}, noOwn f xs → f.fzo xs = f
 | [], _ => rfl
 | x :: xs, h => by
  unfold FS.fzo
  rw [fz1_eq]
  split
  ·rename_i j e
   rw [frz_self fun o ho => ?_]
   ·exact fzo_self h.2
   ·have h1 := h.1
    simp only [FS.res, e, Option.bind_some, ho] at h1
    exact h1
  ·exact fzo_self h.2
theorem Fre.congr {P : Program} {TE : TypeId → Option Ty} {N : Nat} {ops : Array Oper} {key : Nat} {o : Oper} {f f' : FS} {p : PV} {obs : List Ob} (h : Fre P TE N ops key o f p obs) (hx : ∀ x ∈ o.op.operands.toList, f'.res x = f.res x) (hg : gOk ops o f' = gOk ops o f) : Fre P TE N ops key o f' p obs := by
 obtain ⟨h1, h2, h3, h4⟩ := h
 refine ⟨h1, h2, fun k hk => (h3 k hk).imp id fun q => q.imp (fun ⟨x, q1, q2⟩ => ⟨x, q1, by have := hx x q1; simp only [FS.res, Prod.mk.injEq] at this; rw [this.1]; exact q2⟩) id, ?_⟩
 rw [hg]
 refine h4.imp (fun ⟨g1, g2⟩ => ⟨g1, ?_⟩) id
 split at g2
 ·rename_i cl xs Ts hf
  obtain ⟨g, pre, post, al, rs, r0, r1, r2, r3, r4⟩ := g2
  obtain ⟨o1, o2⟩ := fn_operands hf
  exact ⟨g, pre, post, al, rs, fun K' k => cle_congr (fun x hx' => hx x (o2 x hx')) (r0 K' k), fun K' k => rds_congr (fun x hx' => hx x (o1 x hx')) (r1 K' k), r2, r3.imp id (noOwn_congr fun x hx' => hx x (o1 x hx')), r4⟩
 ·obtain ⟨obs0, g3, g2⟩ := g2
  refine ⟨obs0, g3, fun K' k => ?_⟩
  rw [show o.op.operands.toList.map f'.res = o.op.operands.toList.map f.res from List.map_congr_left hx]
  exact g2 K' k
theorem fre_of_stp {P : Program} {TE : TypeId → Option Ty} {N : Nat} {ops : Array Oper} {key : Nat} {o : Oper} {f : FS} {K : KF} (hg : gOk ops o f = some true) (hb : isBar o.op = false) (h : stp P TE N true key o f K) : ∃ p obs, Fre P TE N ops key o f p obs ∧ K ((f.news key obs).put o.dst p) := by
 obtain ⟨hd, h⟩ := h
 rcases hf : fnOf o.op with _ | ⟨cl, xs, Ts⟩
 ·rw [hf] at h
  simp only at h
  rw [if_pos trivial, if_pos hb] at h
  obtain ⟨p, obs, h1, h2, h3, h4⟩ := ev_ex h
  refine ⟨p, frzL o obs, ⟨hd, by unfold frzL; split <;> (try simp only [List.length_map]) <;> omega, fun k hk => ?_, .inl ⟨hg, by rw [hf]; exact ⟨obs, rfl, h1⟩⟩⟩, h2⟩
  rcases h3 k hk with rfl | ⟨x, x1, x2⟩ | hodd
  ·exact .inl ⟨Nat.le_refl _, by omega⟩
  ·obtain ⟨y, y1, rfl⟩ := List.mem_map.1 x1
   exact .inr (.inl ⟨y, y1, x2⟩)
  ·exact .inr (.inr hodd)
 ·rw [hf] at h
  simp only at h
  obtain ⟨g, pre, post, c1, h⟩ := cle_ex h
  obtain ⟨al, a1, ⟨rs, a2, a3, a4⟩ | hh⟩ := rds_ex h
  rotate_left
  ·exact absurd hh.1 (by simp)
  have hfin : (flatR rs = true ∨ noOwn f xs) ∧ K ((f.news key (obsOf rs)).put o.dst (pvOf (pvsOf key rs))) := by
   split at a4
   ·rename_i hfl; exact ⟨.inl hfl, a4⟩
   ·have hno : noOwn f xs := a4.1.resolve_left (by simp)
    have := a4.2
    rw [fzo_self hno] at this
    exact ⟨.inr hno, this⟩
  refine ⟨_, _, ⟨hd, a3, fun k hk => ?_, .inl ⟨hg, by rw [hf]; exact ⟨g, pre, post, al, rs, c1, a1, a2, hfin.1, rfl, rfl⟩⟩⟩, hfin.2⟩
  obtain ⟨q, q1, q2⟩ := pvOf_keys hk
  left
  have hkey : ∀ {rs : List RV} {key : Nat}, ∀ q ∈ pvsOf key rs, ∀ k ∈ q.keys, key ≤ k ∧ k < key + 2 * (obsOf rs).length := by
   intro rs
   induction rs with
   | nil => intro key q hq; cases hq
   | cons r rs ih =>
    intro key q hq k hk
    obtain ⟨b, t, x⟩ := r
    cases b with
    | false =>
     rcases List.mem_cons.1 hq with rfl | hq
     ·cases hk
     ·exact ih q hq k hk
    | true =>
     cases t with
     | sl e t =>
      have hl : (obsOf ((true, ⟨.sl e t, x⟩) :: rs)).length = (obsOf rs).length + 1 := rfl
      rcases List.mem_cons.1 hq with rfl | hq
      ·simp [PV.keys] at hk; rw [hl]; omega
      ·have := ih q hq k hk; rw [hl]; omega
     | _ =>
      rcases List.mem_cons.1 hq with rfl | hq
      ·cases hk
      ·exact ih q hq k hk
  have := hkey q q1 k q2
  omega
theorem stp_of_fre {P : Program} {TE : TypeId → Option Ty} {N : Nat} {ops : Array Oper} {key : Nat} {o : Oper} {f : FS} {K : KF} {p : PV} {obs : List Ob} (hg : gOk ops o f = some true) (hb : isBar o.op = false) (h : Fre P TE N ops key o f p obs) (hK : K ((f.news key obs).put o.dst p)) : stp P TE N true key o f K := by
 obtain ⟨h1, h2, h3, h4⟩ := h
 refine ⟨h1, ?_⟩
 rcases h4 with ⟨_, h4⟩ | ⟨h4, _⟩
 ·rcases hf : fnOf o.op with _ | ⟨cl, xs, Ts⟩
  ·rw [hf] at h4
   obtain ⟨obs0, rfl, h4⟩ := h4
   simp only
   rw [if_pos trivial, if_pos hb]
   exact h4 _ hK
  ·rw [hf] at h4
   obtain ⟨g, pre, post, al, rs, c1, a1, a2, a3, a4, a5⟩ := h4
   simp only
   refine c1 _ (a1 _ (.inl ⟨rs, a2, by rw [← a5]; exact h2, ?_⟩))
   rcases a3 with a3 | a3
   ·rw [if_pos a3, ← a4, ← a5]; exact hK
   ·split
    ·rw [← a4, ← a5]; exact hK
    ·refine ⟨.inr a3, ?_⟩
     rw [fzo_self a3, ← a4, ← a5]; exact hK
 ·rw [hg] at h4; cases h4
theorem ps_bar {op : Op} (h : isPS op = true) : isBar op = false := by cases op <;> first | rfl | cases h
theorem ps_fn {op : Op} (h : isPS op = true) : fnOf op = none := by cases op <;> first | rfl | cases h
theorem ps_bs {op : Op} (h : isPS op = true) : isBS op = false := by cases op <;> first | rfl | cases h
theorem sto_bar {op : Op} (h : isSto op = true) : isBar op = true := by cases op <;> first | rfl | cases h
theorem aBin_fst {op : BinOp} {p1 p2 : PV} {o1 o2 o1' o2' : Option Ob} {K : KK} : aBin op [(p1, o1), (p2, o2)] K = aBin op [(p1, o1'), (p2, o2')] K := by
 cases p1 <;> try rfl
 rename_i t1 x1
 cases t1 <;> try rfl
 all_goals
  cases p2 <;> try rfl
  rename_i t2 x2
  cases t2 <;> rfl
theorem aBin_out {op : BinOp} {al : List Arg} {K : KK} (h : aBin op al K) : ∃ p, K p [] := by
 unfold aBin at h
 split at h
 ·obtain ⟨r, r1, r2⟩ := bin_ex h; exact ⟨_, r2⟩
 ·split at h
  ·exact ⟨_, h⟩
  ·exact ⟨_, h⟩
  ·exact h.elim
 ·exact h.elim
theorem Fre.ps {P : Program} {TE : TypeId → Option Ty} {N : Nat} {ops : Array Oper} {key : Nat} {o : Oper} {f f' : FS} {p : PV} {obs : List Ob} (h : Fre P TE N ops key o f p obs) (hp : isPS o.op = true) (hx : ∀ x ∈ o.op.operands.toList, f'.op x = f.op x) (hg : gOk ops o f' = gOk ops o f) : obs = [] ∧ Fre P TE N ops key o f' p [] := by
 obtain ⟨h1, h2, h3, h4⟩ := h
 have hkeys : ∀ k ∈ p.keys, (key ≤ k ∧ k < key + 8) ∨ (∃ x ∈ o.op.operands.toList, k ∈ (f'.op x).keys) ∨ k % 2 = 1 := fun k hk => (h3 k hk).imp id fun q => q.imp (fun ⟨x, q1, q2⟩ => ⟨x, q1, by rw [hx x q1]; exact q2⟩) id
 rcases h4 with ⟨g1, g2⟩ | ⟨g1, g2, g3⟩
 ·rw [ps_fn hp] at g2
  obtain ⟨obs0, e0, g2⟩ := g2
  have e1 : obs = obs0 := by rw [e0]; unfold frzL; rw [ps_bs hp]; rfl
  subst e1
  obtain ⟨dst, op, type, pos, after, guard⟩ := o
  have fin : obs = [] → (∀ K' : KK, K' p [] → ev TE key op (op.operands.toList.map f'.res) K') → obs = [] ∧ Fre P TE N ops key ⟨dst, op, type, pos, after, guard⟩ f' p [] := fun e q => ⟨e, h1, by simp, hkeys, .inl ⟨by rw [hg]; exact g1, by
   show match fnOf op with
    | some (cl, xs, Ts) => _
    | none => ∃ obs0, [] = frzL ⟨dst, op, type, pos, after, guard⟩ obs0 ∧ ∀ K' : KK, K' p obs0 → ev TE key op (op.operands.toList.map f'.res) K'
   rw [ps_fn hp]
   exact ⟨[], by unfold frzL; simp, q⟩⟩⟩
  cases op <;> try (cases hp; done)
  case move x =>
   have q : ∀ K' : KK, K' p obs → K' (f.op x) [] := fun K' k => by
    have := g2 K' k; simpa [ev, Op.operands, aMove, FS.res] using this
   obtain ⟨q1, q2⟩ := q (fun p' o' => p' = p ∧ o' = obs) ⟨rfl, rfl⟩
   refine fin q2.symm fun K' k => ?_
   have e := hx x (by simp [Op.operands])
   simpa [ev, Op.operands, aMove, FS.res, e, q1] using k
  case assign x =>
   have q : ∀ K' : KK, K' p obs → K' (f.op x) [] := fun K' k => by
    have := g2 K' k; simpa [ev, Op.operands, aMove, FS.res] using this
   obtain ⟨q1, q2⟩ := q (fun p' o' => p' = p ∧ o' = obs) ⟨rfl, rfl⟩
   refine fin q2.symm fun K' k => ?_
   have e := hx x (by simp [Op.operands])
   simpa [ev, Op.operands, aMove, FS.res, e, q1] using k
  case binOp b t x y t' =>
   have q : ∀ K' : KK, K' p obs → aBin b [f.res x, f.res y] K' := fun K' k => by
    have := g2 K' k; simpa [ev, Op.operands] using this
   obtain ⟨p', q1, q2⟩ := aBin_out (q (fun p' o' => p' = p ∧ o' = obs) ⟨rfl, rfl⟩)
   subst q1
   refine fin q2.symm fun K' k => ?_
   have e1 := hx x (by simp [Op.operands])
   have e2 := hx y (by simp [Op.operands])
   have := q K' (q2 ▸ k)
   rw [show f.res x = (f'.op x, (f.op x).key.bind f.o) by unfold FS.res; rw [e1], show f.res y = (f'.op y, (f.op y).key.bind f.o) by unfold FS.res; rw [e2]] at this
   have h5 : aBin b [f'.res x, f'.res y] K' := by
    unfold FS.res
    rw [aBin_fst]
    exact this
   simpa [ev, Op.operands] using h5
 ·subst g2 g3
  exact ⟨rfl, h1, by simp, hkeys, .inr ⟨by rw [hg]; exact g1, rfl, rfl⟩⟩
end Go.TT
end
section
namespace Go.TT
open Go.RowKit
set_option linter.unusedVariables false
set_option linter.unusedSimpArgs false
def FS.add (f : FS) (d : Option Nat) (p : PV) (key : Nat) (obs : List Ob) : FS := (f.news key obs).put d p
theorem news_out : ∀ (obs : List Ob) (f : FS) (key k : Nat), (∀ i, i < obs.length → k ≠ key + 2 * i) → (f.news key obs).o k = f.o k
 | [], f, key, k, _ => rfl
 | o :: obs, f, key, k, h => by
  unfold FS.news
  rw [news_out obs _ (key + 2) k (fun i hi => by have := h (i + 1) (by rw [List.length_cons]; omega); omega)]
  have := h 0 (by rw [List.length_cons]; omega)
  simp [FS.new, upd, show k ≠ key by omega]
theorem news_congr : ∀ (obs : List Ob) (f f' : FS) (key k : Nat), f.o k = f'.o k → (f.news key obs).o k = (f'.news key obs).o k
 | [], f, f', key, k, h => h
 | o :: obs, f, f', key, k, h => by
  unfold FS.news
  refine news_congr obs _ _ (key + 2) k ?_
  simp only [FS.new, upd]
  split
  ·rfl
  ·exact h
theorem add_g (f : FS) (d : Option Nat) (p : PV) (key : Nat) (obs : List Ob) (i : Nat) : (f.add d p key obs).g i = if d = some i then p else f.g i := by
 unfold FS.add FS.put
 cases d with
 | none => simp [news_g]
 | some d =>
  simp only [upd, news_g, Option.some.injEq]
  by_cases h : i = d
  ·rw [if_pos h, if_pos h.symm]
  ·rw [if_neg h, if_neg (Ne.symm h)]
theorem add_out (f : FS) (d : Option Nat) (p : PV) (key : Nat) (obs : List Ob) (k : Nat) (h : ∀ i, i < obs.length → k ≠ key + 2 * i) : (f.add d p key obs).o k = f.o k := by
 unfold FS.add; rw [put_o, news_out _ _ _ _ h]
theorem add_congr (f f' : FS) (d : Option Nat) (p : PV) (key : Nat) (obs : List Ob) (k : Nat) (h : f.o k = f'.o k) : (f.add d p key obs).o k = (f'.add d p key obs).o k := by
 unfold FS.add; rw [put_o, put_o, news_congr _ _ _ _ _ h]
theorem add_h (f : FS) (d : Option Nat) (p : PV) (key : Nat) (obs : List Ob) : (f.add d p key obs).h = f.h := by unfold FS.add; rw [put_h, news_h]
theorem FS.ext {f f' : FS} (h1 : ∀ i, f.g i = f'.g i) (h2 : ∀ k, f.o k = f'.o k) (h3 : f.h = f'.h) : f = f' := by
 obtain ⟨g, o, h⟩ := f
 obtain ⟨g', o', h'⟩ := f'
 rw [show g = g' from funext h1, show o = o' from funext h2, show h = h' from h3]
section
variable {P : Program} {TE : TypeId → Option Ty} {N nx : Nat} {ops : Array Oper} {K : KF}
def Clean (nx : Nat) (R : List Nat) (f : FS) : Prop := ∀ j ∈ R, ∀ t, ∀ k ∈ (f.g t).keys, ¬ (nx + 8 * j ≤ k ∧ k < nx + 8 * j + 8 ∧ k % 2 = 0)
theorem op_keys {R : List Nat} {f : FS} (hc : Clean nx R f) {j : Nat} (hj : j ∈ R) (x : Operand) : ∀ k ∈ (f.op x).keys, ¬ (nx + 8 * j ≤ k ∧ k < nx + 8 * j + 8 ∧ k % 2 = 0) := by
 intro k hk
 cases x with
 | tmp t => exact hc j hj t k hk
 | const v => rw [show (f.op (.const v)).keys = (cst v).keys from rfl, (cst_ok (w := default) (S := fun _ => False) (V := fun _ => default) (sh := fun _ => none) v).2] at hk; cases hk
 | global g => cases hk
 | func g => cases hk
theorem key_keys {p : PV} {k : Nat} (h : p.key = some k) : k ∈ p.keys := by
 cases p <;> simp [PV.key] at h <;> simp [PV.keys, h]
theorem res_add (hev : nx % 2 = 0) {R : List Nat} {f : FS} (hc : Clean nx R f) {j : Nat} (hj : j ∈ R) {d : Option Nat} {p : PV} {obs : List Ob} (ho : obs.length ≤ 4) {x : Operand} (hx : ∀ t, x = .tmp t → d ≠ some t) : (f.add d p (nx + 8 * j) obs).res x = f.res x := by
 have hop : (f.add d p (nx + 8 * j) obs).op x = f.op x := by
  cases x with
  | tmp t => show (f.add d p (nx + 8 * j) obs).g t = f.g t; rw [add_g, if_neg (hx t rfl)]
  | const v => rfl
  | global g => rfl
  | func g => rfl
 unfold FS.res
 rw [hop]
 congr 1
 rcases hk : (f.op x).key with _ | k
 ·rfl
 ·have := op_keys hc hj x k (key_keys hk)
  show (f.add d p (nx + 8 * j) obs).o k = f.o k
  exact add_out _ _ _ _ _ _ fun i hi q => this ⟨by omega, by omega, by omega⟩
theorem gOk_add {f : FS} {d : Option Nat} {p : PV} {key : Nat} {obs : List Ob} {o : Oper} (h : ∀ t, d = some t → t ∉ o.looksAt ops) : gOk ops o (f.add d p key obs) = gOk ops o f := by
 unfold gOk
 rcases hg : o.guard with _ | ⟨j, want⟩
 ·rfl
 ·simp only
  rcases ht : (ops[j]?).bind (·.dst) with _ | t
  ·rfl
  ·simp only
   rw [add_g, if_neg]
   intro e
   refine h t e ?_
   unfold Oper.looksAt
   rw [hg]
   simp [ht]
theorem looks_op {o : Oper} {t : Nat} (h : Operand.tmp t ∈ o.op.operands.toList) : t ∈ o.looksAt ops := by
 unfold Oper.looksAt
 exact List.mem_append_left _ (List.mem_filterMap.2 ⟨.tmp t, h, rfl⟩)
theorem fre_swap (hev : nx % 2 = 0) {R : List Nat} {f : FS} {i j : Nat} (hij : i ≠ j) (hc : Clean nx R f) (hi : i ∈ R) (hj : j ∈ R) {oi oj : Oper} {pi pj : PV} {bi bj : List Ob} (hap : oi.apart ops oj = true)
  (h1 : Fre P TE N ops (nx + 8 * j) oj f pj bj) (h2 : Fre P TE N ops (nx + 8 * i) oi (f.add oj.dst pj (nx + 8 * j) bj) pi bi) :
  Fre P TE N ops (nx + 8 * i) oi f pi bi ∧ Fre P TE N ops (nx + 8 * j) oj (f.add oi.dst pi (nx + 8 * i) bi) pj bj ∧
   (f.add oj.dst pj (nx + 8 * j) bj).add oi.dst pi (nx + 8 * i) bi = (f.add oi.dst pi (nx + 8 * i) bi).add oj.dst pj (nx + 8 * j) bj := by
 obtain ⟨a1, a2, a3⟩ := Oper.apart_spec hap
 have hli := h2.2.1
 have hlj := h1.2.1
 refine ⟨h2.congr (fun x hx => (res_add hev hc hj hlj fun t e => fun q => a3 t q (looks_op (by rw [← e]; exact hx))).symm) (gOk_add fun t e => a3 t e).symm,
  h1.congr (fun x hx => res_add hev hc hi hli fun t e => fun q => a1 t q (looks_op (by rw [← e]; exact hx))) (gOk_add fun t e => a1 t e), FS.ext (fun t => ?_) (fun k => ?_) (by rw [add_h, add_h, add_h, add_h])⟩
 ·rw [add_g, add_g, add_g, add_g]
  by_cases e1 : oi.dst = some t
  ·rw [if_pos e1, if_neg (a2 t e1), if_pos e1]
  ·rw [if_neg e1, if_neg e1]
 ·by_cases hr : nx + 8 * j ≤ k ∧ k < nx + 8 * j + 8
  ·rw [add_out (f.add oj.dst pj (nx + 8 * j) bj) _ _ _ _ _ (fun n hn q => by
    have : i < j ∨ j < i := by omega
    rcases this with h | h <;> omega)]
   refine add_congr _ _ _ _ _ _ _ (add_out _ _ _ _ _ _ fun n hn q => by
    have : i < j ∨ j < i := by omega
    rcases this with h | h <;> omega).symm
  ·rw [add_out (f.add oi.dst pi (nx + 8 * i) bi) _ _ _ _ _ (fun n hn q => hr ⟨by omega, by omega⟩)]
   exact add_congr _ _ _ _ _ _ _ (add_out _ _ _ _ _ _ fun n hn q => hr ⟨by omega, by omega⟩)
theorem Clean.add {R : List Nat} {f : FS} {j : Nat} {o : Oper} {p : PV} {obs : List Ob} (hc : Clean nx (j :: R) f) (hn : j ∉ R) (h : Fre P TE N ops (nx + 8 * j) o f p obs) : Clean nx R (f.add o.dst p (nx + 8 * j) obs) := by
 intro i hi t k hk
 rw [add_g] at hk
 split at hk
 ·rcases h.2.2.1 k hk with h1 | ⟨x, x1, x2⟩ | hodd
  ·have hne : i ≠ j := fun e => hn (e ▸ hi)
   have : i < j ∨ j < i := by omega
   rcases this with h | h <;> omega
  ·exact op_keys hc (List.mem_cons_of_mem _ hi) x k x2
  ·omega
 ·exact hc i (List.mem_cons_of_mem _ hi) t k hk
def Runs (P : Program) (TE : TypeId → Option Ty) (N : Nat) (ops : Array Oper) (nx : Nat) : List Nat → FS → KF → Prop
 | [], f, K => K f
 | i :: l, f, K => ∃ o, ops[i]? = some o ∧ ((isBar o.op = false ∧ ∃ p obs, Fre P TE N ops (nx + 8 * i) o f p obs ∧ Runs P TE N ops nx l (f.add o.dst p (nx + 8 * i) obs) K) ∨
   (isBar o.op = true ∧ ((gOk ops o f = some true ∧ stp P TE N true (nx + 8 * i) o f fun f' => Runs P TE N ops nx l f' K) ∨ (gOk ops o f = some false ∧ dOk N o.dst ∧ Runs P TE N ops nx l (f.put o.dst .tnil) K))))
theorem fSt_ex {key T : Nat} {v : Operand} {f : FS} {d : Option Nat} {K : KF} {a : Arg} (h : fSt TE key T v f d K a) : ∃ f', (∀ K' : KF, K' f' → fSt TE key T v f d K' a) ∧ K f' := by
 unfold fSt at h ⊢
 split at h
 ·obtain ⟨h1, h2⟩ := h
  generalize f.res v = r at h2 ⊢
  unfold fStI at h2 ⊢
  split at h2
  ·obtain ⟨q, h2⟩ := h2
   split at h2
   ·rename_i e; exact ⟨_, fun K' k => ⟨h1, q, by first | exact k | (rw [if_pos e]; exact k)⟩, h2⟩
   ·rename_i e; exact ⟨_, fun K' k => ⟨h1, q, by first | exact k | (rw [if_neg e]; exact k)⟩, h2⟩
  ·exact ⟨_, fun K' k => ⟨h1, h2.1, k⟩, h2.2⟩
  ·exact ⟨_, fun K' k => ⟨h1, h2.1, k⟩, h2.2⟩
  ·exact h2.elim
 ·rename_i p o hn
  suffices hs : ∃ f', (∀ K' : KF, K' f' → fSto TE T ((f.fzo [v]).res v) (f.fzo [v]) d K' (p, p.key.bind (f.fzo [v]).o)) ∧ K f' by
   obtain ⟨f', r1, r2⟩ := hs
   exact ⟨f', fun K' k => r1 K' k, r2⟩
  generalize (p, p.key.bind (f.fzo [v]).o) = r at h ⊢
  unfold fSto at h ⊢
  split at h
  ·obtain ⟨h1, h2⟩ := h
   split at h2
   ·rename_i e
    obtain ⟨y, y1, y2⟩ := shd_ex h2
    obtain ⟨z, z1, z2⟩ := st_ex y2
    exact ⟨_, fun K' k => ⟨h1, by first | exact y1 _ (z1 _ k) | (rw [e]; exact y1 _ (z1 _ k))⟩, z2⟩
   ·exact h2.elim
  ·exact h.elim
theorem fApp_ex {key T : Nat} {x : Arg} {f : FS} {d : Option Nat} {K : KF} {a : Arg} (h : fApp TE key T x f d K a) : ∃ f', (∀ K' : KF, K' f' → fApp TE key T x f d K' a) ∧ K f' := by
 unfold fApp at h ⊢
 split at h
 ·split at h
  ·rename_i e
   obtain ⟨y, y1, y2⟩ := rd_ex h
   exact ⟨_, fun K' k => by first | exact y1 _ ⟨y2.1, k⟩ | (rw [e]; exact y1 _ ⟨y2.1, k⟩), y2.2⟩
  ·exact h.elim
 ·obtain ⟨h1, h2, h3⟩ := h
  obtain ⟨y, y1, y2⟩ := rd_ex h3
  exact ⟨_, fun K' k => ⟨h1, h2, y1 _ ⟨y2.1, k⟩⟩, y2.2⟩
 ·exact h.elim
theorem fAp_ex {key T : Nat} {x : Operand} {f : FS} {d : Option Nat} {K : KF} {a : Arg} (h : fAp TE key T x f d K a) : ∃ f', (∀ K' : KF, K' f' → fAp TE key T x f d K' a) ∧ K f' := by
 unfold fAp at h ⊢
 split at h
 ·obtain ⟨h1, h2⟩ := h
  generalize f.res x = r at h2 ⊢
  unfold fApI at h2 ⊢
  split at h2
  ·exact ⟨_, fun K' k => ⟨h1, h2.1, k⟩, h2.2⟩
  ·exact h2.elim
 ·rename_i hn
  split at h
  ·rename_i e
   obtain ⟨f', r1, r2⟩ := fApp_ex h
   exact ⟨f', fun K' k => by first | exact r1 K' k | (simp only [e]; exact r1 K' k), r2⟩
  ·rename_i e
   obtain ⟨f', r1, r2⟩ := fApp_ex h
   exact ⟨f', fun K' k => by first | exact r1 K' k | (split <;> first | exact r1 K' k | (rename_i q; exact absurd q (e _ _ _))), r2⟩
theorem bar_ex {key : Nat} {o : Oper} {f : FS} {K : KF} (hb : isBar o.op = true) (h : full TE key o f K) : ∃ f', (∀ K' : KF, K' f' → full TE key o f K') ∧ K f' := by
 obtain ⟨dst, op, type, pos, after, guard⟩ := o
 unfold isBar at hb
 split at hb
 ·rename_i T a v heq
  simp only at heq
  subst heq
  have h : fSt TE key T v f dst K (f.res a) := h
  suffices hs : ∃ f', (∀ K' : KF, K' f' → fSt TE key T v f dst K' (f.res a)) ∧ K f' from hs
  exact fSt_ex h
 ·rename_i T m x y heq
  simp only at heq
  subst heq
  have h : fMUp TE T ((f.fzo [y]).res x) ((f.fzo [y]).res y) (f.fzo [y]) dst K ((f.fzo [y]).res m) := h
  suffices hs : ∃ f', (∀ K' : KF, K' f' → fMUp TE T ((f.fzo [y]).res x) ((f.fzo [y]).res y) (f.fzo [y]) dst K' ((f.fzo [y]).res m)) ∧ K f' from hs
  generalize (f.fzo [y]).res m = r at h ⊢
  unfold fMUp at h ⊢
  split at h
  ·obtain ⟨h1, h2⟩ := h
   obtain ⟨u, u1, u2⟩ := shd_ex h2
   obtain ⟨z, z1, z2⟩ := shd_ex u2
   exact ⟨_, fun K' k => ⟨h1, u1 _ (z1 _ k)⟩, z2⟩
  ·exact h.elim
 ·rename_i al ts heq
  simp only at heq
  subst heq
  have h : (match al.toList, ts.toList with
   | [s, x], [T, T'] => T = T' ∧ fAp TE key T x f dst K (f.res s)
   | _, _ => False) := h
  suffices hs : ∃ f', (∀ K' : KF, K' f' → (match al.toList, ts.toList with
   | [s, x], [T, T'] => T = T' ∧ fAp TE key T x f dst K' (f.res s)
   | _, _ => False)) ∧ K f' from hs
  split at h
  ·obtain ⟨h0, h⟩ := h
   obtain ⟨f', r1, r2⟩ := fAp_ex h
   exact ⟨f', fun K' k => ⟨h0, r1 K' k⟩, r2⟩
  ·exact h.elim
 ·rename_i al ts heq
  simp only at heq
  subst heq
  have h : (match al.toList, ts.toList with
   | [s, x], T :: _ => fCopy TE T (f.res x) f dst K (f.res s)
   | _, _ => False) := h
  suffices hs : ∃ f', (∀ K' : KF, K' f' → (match al.toList, ts.toList with
   | [s, x], T :: _ => fCopy TE T (f.res x) f dst K' (f.res s)
   | _, _ => False)) ∧ K f' from hs
  split at h
  ·unfold fCopy at h ⊢
   split at h
   ·obtain ⟨h1, h2, h3⟩ := h
    obtain ⟨y, y1, y2⟩ := rd_ex h3
    exact ⟨_, fun K' k => ⟨h1, h2, y1 _ k⟩, y2⟩
   ·exact h.elim
  ·exact h.elim
 ·cases hb
theorem bar_fn {op : Op} (hb : isBar op = true) : fnOf op = none := by
 unfold isBar at hb
 split at hb <;> first | rfl | cases hb
theorem stp_bar {key : Nat} {o : Oper} {f : FS} {K K' : KF} (hb : isBar o.op = true) (h : stp P TE N true key o f K) (hK : ∀ f, K f → K' f) : stp P TE N true key o f K' := by
 obtain ⟨h1, h2⟩ := h
 refine ⟨h1, ?_⟩
 rw [bar_fn hb] at h2 ⊢
 simp only at h2 ⊢
 rw [if_pos trivial, if_neg (by rw [hb]; simp)] at h2 ⊢
 obtain ⟨f', r1, r2⟩ := bar_ex hb h2
 exact r1 _ (hK _ r2)
theorem runs_of_rgn : ∀ (l : List Oper) (i0 : Nat) (f : FS), (∀ k o, l[k]? = some o → ops[i0 + k]? = some o) → rgn P TE N true ops (nx + 8 * i0) l f K → Runs P TE N ops nx (List.range' i0 l.length) f K
 | [], i0, f, _, h => h
 | o :: l, i0, f, hl, h => by
  rw [List.length_cons, List.range'_succ]
  have ho : ops[i0]? = some o := hl 0 o rfl
  have hl' : ∀ k o', l[k]? = some o' → ops[i0 + 1 + k]? = some o' := fun k o' e => by
   rw [Nat.add_assoc, Nat.add_comm 1 k]; exact hl (k + 1) o' e
  refine ⟨o, ho, ?_⟩
  rcases hb : isBar o.op with _ | _
  ·left
   refine ⟨rfl, ?_⟩
   rcases grd_out h with ⟨hg, h1⟩ | ⟨hg, hd, h1⟩
   ·obtain ⟨p, obs, h2, h3⟩ := fre_of_stp hg hb h1
    exact ⟨p, obs, h2, runs_of_rgn l (i0 + 1) _ hl' (by rw [Nat.mul_add, Nat.mul_one, ← Nat.add_assoc]; exact h3)⟩
   ·exact ⟨.tnil, [], ⟨hd, by simp, (fun k hk => by cases hk), .inr ⟨hg, rfl, rfl⟩⟩, runs_of_rgn l (i0 + 1) _ hl' (by rw [Nat.mul_add, Nat.mul_one, ← Nat.add_assoc]; exact h1)⟩
  ·right
   refine ⟨rfl, ?_⟩
   rcases grd_out h with ⟨hg, h1⟩ | ⟨hg, hd, h1⟩
   ·left
    refine ⟨hg, ?_⟩
    exact stp_bar hb h1 fun f' h' => runs_of_rgn l (i0 + 1) _ hl' (by rw [Nat.mul_add, Nat.mul_one, ← Nat.add_assoc]; exact h')
   ·exact .inr ⟨hg, hd, runs_of_rgn l (i0 + 1) _ hl' (by rw [Nat.mul_add, Nat.mul_one, ← Nat.add_assoc]; exact h1)⟩
theorem put_adopt {f : FS} {d : Nat} {p : PV} {j : Nat} : (f.put (some d) p).adopt j = (f.adopt j).put (some d) p := by
 unfold FS.adopt
 rw [show (f.put (some d) p).o j = f.o j from rfl]
 split <;> rfl
theorem put_frz {f : FS} {d : Nat} {p : PV} {j : Nat} : (f.put (some d) p).frz j = (f.frz j).put (some d) p := by
 unfold FS.frz
 rw [show (f.put (some d) p).o j = f.o j from rfl]
 split <;> rfl
theorem put_put {f : FS} {d e : Nat} {p q : PV} (h : d ≠ e) : (f.put (some d) p).put (some e) q = (f.put (some e) q).put (some d) p := by
 refine FS.ext (fun i => ?_) (fun _ => rfl) rfl
 show upd (upd f.g d p) e q i = upd (upd f.g e q) d p i
 unfold upd
 by_cases h1 : i = e
 ·rw [if_pos h1, if_neg (fun h2 => h (h2.symm.trans h1)), if_pos h1]
 ·rw [if_neg h1]
  by_cases h2 : i = d
  ·rw [if_pos h2, if_pos h2]
  ·rw [if_neg h2, if_neg h2, if_neg h1]
theorem put_putO {f : FS} {d : Nat} {e : Option Nat} {p q : PV} (h : e ≠ some d) : (f.put (some d) p).put e q = (f.put e q).put (some d) p := by
 cases e with
 | none => rfl
 | some e => exact put_put fun q => h (by rw [q])
theorem put_op {f : FS} {d : Nat} {p : PV} {x : Operand} (h : x ≠ .tmp d) : (f.put (some d) p).op x = f.op x := by
 cases x with
 | tmp t =>
  show upd f.g d p t = f.g t
  unfold upd
  rw [if_neg (fun e => h (by rw [e]))]
 | _ => rfl
theorem put_res {f : FS} {d : Nat} {p : PV} {x : Operand} (h : x ≠ .tmp d) : (f.put (some d) p).res x = f.res x := by
 unfold FS.res; rw [put_op h]; rfl
theorem put_fzo {f : FS} {d : Nat} {p : PV} {x : Operand} (h : x ≠ .tmp d) : (f.put (some d) p).fzo [x] = (f.fzo [x]).put (some d) p := by
 show TT.fz1 (f.put (some d) p) ((f.put (some d) p).op x) = (TT.fz1 f (f.op x)).put (some d) p
 rw [put_op h]
 unfold TT.fz1
 split <;> first | exact put_frz | rfl
theorem fStI_put {e e' : TypeId} {t' : Ty} {ids : List Nat} {k key : Nat} {i : Int} {f : FS} {d : Option Nat} {dj : Nat} {p : PV} {a : Arg} (hd : d ≠ some dj) : fStI e e' t' ids k i key (f.put (some dj) p) d K a = fStI e e' t' ids k i key f d (fun f' => K (f'.put (some dj) p)) a := by
 unfold fStI
 split
 ·congr 1
  split
  ·congr 1; rw [← put_putO hd]; rfl
  ·congr 1; rw [← put_putO hd, put_adopt]; rfl
 ·congr 2; rw [← put_putO hd, show (f.put (some dj) p).new key ⟨e', t', [], true⟩ = (f.new key ⟨e', t', [], true⟩).put (some dj) p from rfl, put_adopt]; rfl
 ·congr 2; rw [← put_putO hd]; rename_i e2 t2 ys _; rw [show (f.put (some dj) p).new key ⟨e2, t2, ys, false⟩ = (f.new key ⟨e2, t2, ys, false⟩).put (some dj) p from rfl, put_adopt]; rfl
 ·rfl
theorem fSto_put {T : TypeId} {v a : Arg} {f : FS} {d : Option Nat} {dj : Nat} {p : PV} (hd : d ≠ some dj) : fSto TE T v (f.put (some dj) p) d K a = fSto TE T v f d (fun f' => K (f'.put (some dj) p)) a := by
 unfold fSto
 split
 ·congr 1
  split
  ·congr 1; funext y; congr 1; funext x'; congr 1; rw [← put_putO hd]; rfl
  ·rfl
 ·rfl
theorem fSt_put {key T : Nat} {v : Operand} {f : FS} {d : Option Nat} {dj : Nat} {p : PV} {a : Arg} (hd : d ≠ some dj) (hv : v ≠ .tmp dj) : fSt TE key T v (f.put (some dj) p) d K a = fSt TE key T v f d (fun f' => K (f'.put (some dj) p)) a := by
 unfold fSt
 split
 ·rw [put_res hv, fStI_put hd]
 ·rw [put_fzo hv, put_res hv, fSto_put hd]; rfl
theorem sto_put {key : Nat} {o : Oper} {f : FS} {K : KF} {dj : Nat} {p : PV} (hs : isSto o.op = true) (hd : o.dst ≠ some dj) (hl : dj ∉ o.looksAt ops) : stp P TE N true key o (f.put (some dj) p) K = stp P TE N true key o f (fun f' => K (f'.put (some dj) p)) := by
 obtain ⟨dst, op, type, pos, after, guard⟩ := o
 cases op <;> try (cases hs; done)
 rename_i T a v
 have h1 : a ≠ .tmp dj := fun e => hl (looks_op (by simp [Op.operands, e]))
 have h2 : v ≠ .tmp dj := fun e => hl (looks_op (by simp [Op.operands, e]))
 show (dOk N dst ∧ fSt TE key T v (f.put (some dj) p) dst K ((f.put (some dj) p).res a)) = (dOk N dst ∧ fSt TE key T v f dst (fun f' => K (f'.put (some dj) p)) (f.res a))
 rw [fSt_put hd h2, put_res h1]
theorem sto_ex {key : Nat} {o : Oper} {f : FS} {K : KF} (hs : isSto o.op = true) (h : stp P TE N true key o f K) : ∃ f1, (∀ K' : KF, K' f1 → stp P TE N true key o f K') ∧ K f1 ∧ (∀ t, o.dst ≠ some t → f1.g t = f.g t) ∧ ∀ t k, k ∈ (f1.g t).keys → k ∈ (f.g t).keys := by
 obtain ⟨f1, r1, r2, r3⟩ : ∃ f1, (∀ K' : KF, K' f1 → stp P TE N true key o f K') ∧ K f1 ∧ f1.g = (f.put o.dst .bot).g := by
  obtain ⟨dst, op, type, pos, after, guard⟩ := o
  cases op <;> try (cases hs; done)
  rename_i T a v
  have h : dOk N dst ∧ fSt TE key T v f dst K (f.res a) := h
  obtain ⟨h0, h⟩ := h
  suffices hh : ∃ f1, (∀ K' : KF, K' f1 → fSt TE key T v f dst K' (f.res a)) ∧ K f1 ∧ f1.g = (f.put dst .bot).g by
   obtain ⟨f1, r1, r2, r3⟩ := hh
   exact ⟨f1, fun K' k => ⟨h0, r1 K' k⟩, r2, r3⟩
  have put_gg : ∀ {g : FS}, g.g = f.g → (g.put dst .bot).g = (f.put dst .bot).g := fun {g} e => by
   cases dst with
   | none => exact e
   | some d => show upd g.g d .bot = upd f.g d .bot; rw [e]
  have had : ∀ {g : FS} {j : Nat}, (g.adopt j).g = g.g := fun {g j} => by unfold FS.adopt; split <;> rfl
  generalize f.res a = r at h ⊢
  unfold fSt at h ⊢
  split at h
  ·obtain ⟨h1, h2⟩ := h
   generalize f.res v = r at h2 ⊢
   unfold fStI at h2 ⊢
   split at h2
   ·obtain ⟨q, h2⟩ := h2
    split at h2
    ·rename_i e; exact ⟨_, fun K' k => ⟨h1, q, by first | exact k | (rw [if_pos e]; exact k)⟩, h2, put_gg rfl⟩
    ·rename_i e; exact ⟨_, fun K' k => ⟨h1, q, by first | exact k | (rw [if_neg e]; exact k)⟩, h2, put_gg had⟩
   ·exact ⟨_, fun K' k => ⟨h1, h2.1, k⟩, h2.2, put_gg had⟩
   ·exact ⟨_, fun K' k => ⟨h1, h2.1, k⟩, h2.2, put_gg had⟩
   ·exact h2.elim
  ·rename_i p o hn
   suffices hs : ∃ f', (∀ K' : KF, K' f' → fSto TE T ((f.fzo [v]).res v) (f.fzo [v]) dst K' (p, p.key.bind (f.fzo [v]).o)) ∧ K f' ∧ f'.g = (f.put dst .bot).g by
    obtain ⟨f', r1, r2, r3⟩ := hs
    exact ⟨f', fun K' k => r1 K' k, r2, r3⟩
   generalize (p, p.key.bind (f.fzo [v]).o) = r at h ⊢
   unfold fSto at h ⊢
   split at h
   ·obtain ⟨h1, h2⟩ := h
    split at h2
    ·rename_i e
     obtain ⟨y, y1, y2⟩ := shd_ex h2
     obtain ⟨z, z1, z2⟩ := st_ex y2
     exact ⟨_, fun K' k => ⟨h1, by first | exact y1 _ (z1 _ k) | (rw [e]; exact y1 _ (z1 _ k))⟩, z2, put_gg (by show (f.fzo [v]).g = f.g; exact fzo_g [v] f)⟩
    ·exact h2.elim
   ·exact h.elim
 refine ⟨f1, r1, r2, fun t ht => ?_, fun t k hk => ?_⟩
 ·rw [r3]
  cases hd : o.dst with
  | none => rfl
  | some d => show upd f.g d .bot t = f.g t; unfold upd; rw [if_neg (fun e => ht (by rw [hd, e]))]
 ·rw [r3] at hk
  cases hd : o.dst with
  | none => rw [hd] at hk; exact hk
  | some d =>
   rw [hd] at hk
   have hk : k ∈ (upd f.g d .bot t).keys := hk
   unfold upd at hk
   split at hk
   ·cases hk
   ·exact hk
def StepR (P : Program) (TE : TypeId → Option Ty) (N : Nat) (ops : Array Oper) (nx i : Nat) (f : FS) (R : KF) : Prop := ∃ o, ops[i]? = some o ∧ ((isBar o.op = false ∧ ∃ p obs, Fre P TE N ops (nx + 8 * i) o f p obs ∧ R (f.add o.dst p (nx + 8 * i) obs)) ∨
   (isBar o.op = true ∧ ((gOk ops o f = some true ∧ stp P TE N true (nx + 8 * i) o f R) ∨ (gOk ops o f = some false ∧ dOk N o.dst ∧ R (f.put o.dst .tnil)))))
theorem gOk_g {o : Oper} {f f' : FS} (h : ∀ t, t ∈ o.looksAt ops → f'.g t = f.g t) : gOk ops o f' = gOk ops o f := by
 unfold gOk
 rcases hg : o.guard with _ | ⟨j, want⟩
 ·rfl
 ·simp only
  rcases ht : (ops[j]?).bind (·.dst) with _ | t
  ·rfl
  ·simp only
   rw [h t (by unfold Oper.looksAt; rw [hg]; simp [ht])]
theorem op_looks {o : Oper} {f f' : FS} (h : ∀ t, t ∈ o.looksAt ops → f'.g t = f.g t) : ∀ x ∈ o.op.operands.toList, f'.op x = f.op x := by
 intro x hx
 cases x with
 | tmp t => exact h t (looks_op hx)
 | _ => rfl
theorem put_g_ne {f : FS} {d : Option Nat} {p : PV} {t : Nat} (h : d ≠ some t) : (f.put d p).g t = f.g t := by
 cases d with
 | none => rfl
 | some d => show upd f.g d p t = f.g t; unfold upd; rw [if_neg (fun e => h (by rw [e]))]
theorem sto_ps_swap {i j : Nat} {oi oj : Oper} {f : FS} {R : KF} (hi : ops[i]? = some oi) (hj : ops[j]? = some oj) (hs : isSto oj.op = true) (hp : isPS oi.op = true) (hap : oi.apart ops oj = true) (h : StepR P TE N ops nx j f fun f1 => StepR P TE N ops nx i f1 R) : StepR P TE N ops nx i f fun f1 => StepR P TE N ops nx j f1 R := by
 obtain ⟨a1, a2, a3⟩ := Oper.apart_spec hap
 obtain ⟨o, h1, h2⟩ := h
 rw [hj] at h1; injection h1 with h1; subst h1
 have fin : ∀ {f1 : FS} {p : PV} {obs : List Ob}, (∀ t, oj.dst ≠ some t → f1.g t = f.g t) → Fre P TE N ops (nx + 8 * i) oi f1 p obs → (StepR P TE N ops nx j (f.put oi.dst p) R) → StepR P TE N ops nx i f fun f1 => StepR P TE N ops nx j f1 R := fun {f1 p obs} hg hf hr => by
  have hsame : ∀ t, t ∈ oi.looksAt ops → f.g t = f1.g t := fun t ht => (hg t (fun e => a3 t e ht)).symm
  exact ⟨oi, hi, .inl ⟨ps_bar hp, p, [], (hf.ps hp (op_looks hsame) (gOk_g hsame)).2, hr⟩⟩
 have hbar : ∀ (p : PV), gOk ops oj (f.put oi.dst p) = gOk ops oj f := fun p => gOk_g fun t ht => put_g_ne fun e => a1 t e ht
 rcases h2 with ⟨h2, _⟩ | ⟨hb, h2⟩
 ·rw [sto_bar hs] at h2; cases h2
 ·rcases h2 with ⟨hg, h2⟩ | ⟨hg, hd, h2⟩
  ·obtain ⟨f1, r1, ⟨o', e1, e2⟩, r3, _⟩ := sto_ex hs h2
   rw [hi] at e1; injection e1 with e1; subst e1
   rcases e2 with ⟨_, p, obs, hf, hr⟩ | ⟨e2, _⟩
   ·have e0 := (hf.ps hp (fun _ _ => rfl) rfl).1
    subst e0
    refine fin r3 hf ⟨oj, hj, .inr ⟨hb, .inl ⟨by rw [hbar]; exact hg, ?_⟩⟩⟩
    cases hdi : oi.dst with
    | none => rw [hdi] at hr; exact r1 _ hr
    | some d =>
     rw [hdi] at hr
     rw [sto_put hs (fun e => a2 d hdi e) (a1 d hdi)]
     exact r1 _ hr
   ·rw [ps_bar hp] at e2; cases e2
  ·obtain ⟨o', e1, e2⟩ := h2
   rw [hi] at e1; injection e1 with e1; subst e1
   rcases e2 with ⟨_, p, obs, hf, hr⟩ | ⟨e2, _⟩
   ·have e0 := (hf.ps hp (fun _ _ => rfl) rfl).1
    subst e0
    refine fin (fun t ht => put_g_ne ht) hf ⟨oj, hj, .inr ⟨hb, .inr ⟨by rw [hbar]; exact hg, hd, ?_⟩⟩⟩
    cases hdi : oi.dst with
    | none => rw [hdi] at hr; exact hr
    | some d =>
     rw [hdi] at hr
     rw [put_putO (fun e => a2 d hdi e)]
     exact hr
   ·rw [ps_bar hp] at e2; cases e2
theorem ps_sto_swap {i j : Nat} {oi oj : Oper} {f : FS} {R : KF} (hi : ops[i]? = some oi) (hj : ops[j]? = some oj) (hs : isSto oi.op = true) (hp : isPS oj.op = true) (hap : oi.apart ops oj = true) (h : StepR P TE N ops nx j f fun f1 => StepR P TE N ops nx i f1 R) : StepR P TE N ops nx i f fun f1 => StepR P TE N ops nx j f1 R := by
 obtain ⟨a1, a2, a3⟩ := Oper.apart_spec hap
 obtain ⟨o, h1, h2⟩ := h
 rw [hj] at h1; injection h1 with h1; subst h1
 rcases h2 with ⟨_, p, obs, hf, hr⟩ | ⟨h2, _⟩
 rotate_left
 ·rw [ps_bar hp] at h2; cases h2
 have e0 := (hf.ps hp (fun _ _ => rfl) rfl).1
 subst e0
 obtain ⟨o', e1, e2⟩ := hr
 rw [hi] at e1; injection e1 with e1; subst e1
 have hbar : gOk ops oi (f.put oj.dst p) = gOk ops oi f := gOk_g fun t ht => put_g_ne fun e => a3 t e ht
 have hpsf : ∀ {f1 : FS}, (∀ t, oi.dst ≠ some t → f1.g t = f.g t) → R (f1.put oj.dst p) → StepR P TE N ops nx j f1 R := fun {f1} hg hr => by
  have hsame : ∀ t, t ∈ oj.looksAt ops → f1.g t = f.g t := fun t ht => hg t fun e => a1 t e ht
  exact ⟨oj, hj, .inl ⟨ps_bar hp, p, [], (hf.ps hp (op_looks hsame) (gOk_g hsame)).2, hr⟩⟩
 rcases e2 with ⟨e2, _⟩ | ⟨hb, e2⟩
 ·rw [sto_bar hs] at e2; cases e2
 ·have e2 : (gOk ops oi (f.put oj.dst p) = some true ∧ stp P TE N true (nx + 8 * i) oi (f.put oj.dst p) R) ∨ (gOk ops oi (f.put oj.dst p) = some false ∧ dOk N oi.dst ∧ R ((f.put oj.dst p).put oi.dst .tnil)) := e2
  rw [hbar] at e2
  rcases e2 with ⟨hg, e2⟩ | ⟨hg, hd, e2⟩
  ·refine ⟨oi, hi, .inr ⟨hb, .inl ⟨hg, ?_⟩⟩⟩
   have e3 : stp P TE N true (nx + 8 * i) oi f (fun f' => R (f'.put oj.dst p)) := by
    cases hdj : oj.dst with
    | none => rw [hdj] at e2; exact e2
    | some d =>
     rw [hdj, sto_put hs (fun e => a2 d e hdj) (a3 d hdj)] at e2
     exact e2
   obtain ⟨f1, r1, r2, r3, _⟩ := sto_ex hs e3
   exact r1 _ (hpsf r3 r2)
  ·refine ⟨oi, hi, .inr ⟨hb, .inr ⟨hg, hd, hpsf (fun t ht => put_g_ne ht) ?_⟩⟩⟩
   cases hdj : oj.dst with
   | none => rw [hdj] at e2; exact e2
   | some d =>
    rw [hdj, put_putO (fun e => a2 d e hdj)] at e2
    exact e2
theorem confl_cases {oj oi : Oper} (h : confl ops oj oi = false) : oj.apart ops oi = true ∧ ((isBar oj.op = false ∧ isBar oi.op = false) ∨ (isSto oj.op = true ∧ isPS oi.op = true) ∨ (isPS oj.op = true ∧ isSto oi.op = true)) := by
 unfold confl at h
 split at h
 ·rename_i hc
  refine ⟨by simpa using h, .inr ?_⟩
  simpa [Bool.or_eq_true, Bool.and_eq_true] using hc
 ·simp only [Bool.or_eq_false_iff, Bool.not_eq_false'] at h
  exact ⟨h.2, .inl ⟨h.1.1, h.1.2⟩⟩
theorem apart_symm {x y : Oper} (h : x.apart ops y = true) : y.apart ops x = true := by
 obtain ⟨h1, h2, h3⟩ := Oper.apart_spec h
 unfold Oper.apart
 rcases hx : x.dst with _ | d <;> rcases hy : y.dst with _ | e
 ·rfl
 ·simp [h3 e hy]
 ·simp [h1 d hx]
 ·have := h2 d hx
  rw [hy] at this
  simp only [Bool.and_eq_true, Bool.not_eq_true', List.contains_eq_mem, decide_eq_false_iff_not, bne_iff_ne, ne_eq, Option.some.injEq]
  exact ⟨⟨h3 e hy, fun q => this (by rw [q])⟩, h1 d hx⟩
theorem runs_first (hev : nx % 2 = 0) {i : Nat} {oi : Oper} (hi : ops[i]? = some oi) : ∀ {pre post : List Nat} {f : FS}, (pre ++ i :: post).Nodup → Clean nx (pre ++ i :: post) f → (∀ j ∈ pre, ∀ oj, ops[j]? = some oj → confl ops oj oi = false) →
  Runs P TE N ops nx (pre ++ i :: post) f K → StepR P TE N ops nx i f fun f' => Runs P TE N ops nx (pre ++ post) f' K
 | [], post, f, _, _, _, h => h
 | j :: pre, post, f, hn, hc, hap, h => by
  obtain ⟨oj, h1, h2⟩ := h
  have hn' := List.nodup_cons.1 hn
  have hij : i ≠ j := fun e => hn'.1 (by rw [← e]; simp)
  obtain ⟨hapj, hcs⟩ := confl_cases (hap j List.mem_cons_self oj h1)
  have hapi := apart_symm hapj
  have hrec : ∀ {f1 : FS}, Clean nx (pre ++ i :: post) f1 → Runs P TE N ops nx (pre ++ i :: post) f1 K → StepR P TE N ops nx i f1 fun f' => Runs P TE N ops nx (pre ++ post) f' K := fun {f1} hc1 hr1 => runs_first hev hi hn'.2 hc1 (fun k hk => hap k (List.mem_cons_of_mem _ hk)) hr1
  rcases hcs with ⟨hbj, hbi⟩ | ⟨hsj, hpi⟩ | ⟨hpj, hsi⟩
  ·rcases h2 with ⟨_, pj, bj, h3, h4⟩ | ⟨h2, _⟩
   ·obtain ⟨o', e1, e2⟩ := hrec (hc.add hn'.1 h3) h4
    rw [hi] at e1; injection e1 with e1; subst e1
    rcases e2 with ⟨_, pi, bi, h5, h6⟩ | ⟨e2, _⟩
    ·obtain ⟨q1, q2, q3⟩ := fre_swap hev hij hc (by simp) (by simp) hapi h3 h5
     exact ⟨oi, hi, .inl ⟨hbi, pi, bi, q1, oj, h1, .inl ⟨hbj, pj, bj, q2, by rw [← q3]; exact h6⟩⟩⟩
    ·rw [hbi] at e2; cases e2
   ·rw [hbj] at h2; cases h2
  ·refine sto_ps_swap hi h1 hsj hpi hapi (R := fun f' => Runs P TE N ops nx (pre ++ post) f' K) ⟨oj, h1, ?_⟩
   rcases h2 with ⟨h2, _⟩ | ⟨hb, h2⟩
   ·rw [sto_bar hsj] at h2; cases h2
   ·refine .inr ⟨hb, ?_⟩
    have hcl : ∀ {f1 : FS}, (∀ t k, k ∈ (f1.g t).keys → k ∈ (f.g t).keys) → Clean nx (pre ++ i :: post) f1 := fun {f1} hk n hn t k hkk => hc n (List.mem_cons_of_mem _ hn) t k (hk t k hkk)
    rcases h2 with ⟨hg, h2⟩ | ⟨hg, hd, h2⟩
    ·obtain ⟨f1, r1, r2, _, r4⟩ := sto_ex hsj h2
     exact .inl ⟨hg, r1 _ (hrec (hcl r4) r2)⟩
    ·refine .inr ⟨hg, hd, hrec (hcl fun t k hk => ?_) h2⟩
     cases hdj : oj.dst with
     | none => rw [hdj] at hk; exact hk
     | some d =>
      rw [hdj] at hk
      have hk : k ∈ (upd f.g d .tnil t).keys := hk
      unfold upd at hk
      split at hk
      ·cases hk
      ·exact hk
  ·refine ps_sto_swap hi h1 hsi hpj hapi (R := fun f' => Runs P TE N ops nx (pre ++ post) f' K) ⟨oj, h1, ?_⟩
   rcases h2 with ⟨hb, pj, bj, h3, h4⟩ | ⟨h2, _⟩
   ·exact .inl ⟨hb, pj, bj, h3, hrec (hc.add hn'.1 h3) h4⟩
   ·rw [ps_bar hpj] at h2; cases h2
end
end Go.TT
end

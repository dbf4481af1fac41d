/- Machine side and arithmetic of the law, put together by a program of the session. No conditions. -/
import Derived.Laws.Slices
import Derived.Test.YtillaipaanancaaGreatKdr6
section
namespace Go.TT
open Go.RowKit
set_option linter.unusedVariables false
set_option linter.unusedSimpArgs false
section
variable {P : Program} {TE : TypeId → Option Ty} {n0 : Nat → Prop} {w0 : World} {S0 : Nat → Prop} {N : Nat} {Fk : Nat → Prop} {f : FS} {a : Act} {w w' : World} {S S' : Nat → Prop} {V V' : Nat → Value} {key : Nat} {K : KK}
theorem Cs_cut {e : TypeId} {t : Ty} {xs : List t.den} {A : Option Addr} {n c : Nat} (h : Cs w S (.sl e t) xs [.slice A n c]) (l m : Nat) (hl : l ≤ m) (hm : m ≤ xs.length) :
  Cs w S (.sl e t) ((xs.take m).drop l) [.slice (if c = l then A else A.map (·.add (l * t.sz))) (m - l) (c - l)] := by
 obtain ⟨A', c', cs, e1, e2, e3, e4⟩ := h
 injection e1 with e1 _; injection e1 with q1 q2 q3; subst q1 q2 q3
 have hlen : ((xs.take m).drop l).length = m - l := by rw [List.length_drop, List.length_take, Nat.min_eq_left hm]
 refine ⟨_, _, (cs.take (m * t.sz)).drop (l * t.sz), by rw [hlen], by rw [hlen]; omega, Fl_drop (fun _ _ => Cs_len) (Fl_take (fun _ _ => Cs_len) e3 m hm) l (by rw [List.length_take, Nat.min_eq_left hm]; exact hl), ?_⟩
 by_cases hlm : m = l
 ·left; apply List.eq_nil_of_length_eq_zero; rw [hlen]; omega
 ·right
  rcases e4 with e4 | ⟨ad, rfl, hs, hc⟩
  ·rw [e4] at hm; simp at hm; omega
  ·refine ⟨ad.add (l * t.sz), by rw [if_neg (by omega)]; rfl, by rw [add_block]; exact hs, fun j u hj => ?_⟩
   rw [add_add]
   rw [List.getElem?_drop, List.getElem?_take] at hj
   split at hj
   ·exact hc _ _ hj
   ·cases hj
theorem Cs_cut3 {e : TypeId} {t : Ty} {xs : List t.den} {A : Option Addr} {n c : Nat} (h : Cs w S (.sl e t) xs [.slice A n c]) (l m q : Nat) (hl : l ≤ m) (hm : m ≤ xs.length) (hq : m ≤ q) :
  Cs w S (.sl e t) ((xs.take m).drop l) [.slice (if q = l then A else A.map (·.add (l * t.sz))) (m - l) (q - l)] := by
 obtain ⟨A', c', cs, e1, e2, e3, e4⟩ := h
 injection e1 with e1 _; injection e1 with q1 q2 q3; subst q1 q2 q3
 have hlen : ((xs.take m).drop l).length = m - l := by rw [List.length_drop, List.length_take, Nat.min_eq_left hm]
 refine ⟨_, _, (cs.take (m * t.sz)).drop (l * t.sz), by rw [hlen], by rw [hlen]; omega, Fl_drop (fun _ _ => Cs_len) (Fl_take (fun _ _ => Cs_len) e3 m hm) l (by rw [List.length_take, Nat.min_eq_left hm]; exact hl), ?_⟩
 by_cases hlm : m = l
 ·left; apply List.eq_nil_of_length_eq_zero; rw [hlen]; omega
 ·right
  rcases e4 with e4 | ⟨ad, rfl, hs, hc⟩
  ·rw [e4] at hm; simp at hm; omega
  ·refine ⟨ad.add (l * t.sz), by rw [if_neg (by omega)]; rfl, by rw [add_block]; exact hs, fun j u hj => ?_⟩
   rw [add_add]
   rw [List.getElem?_drop, List.getElem?_take] at hj
   split at hj
   ·exact hc _ _ hj
   ·cases hj
theorem run_sliceAt3 {T e : TypeId} {t : Ty} {A : Option Addr} {len cap : Nat} (hu : P.underlying T = some (.slice e)) (hT : TyOk P t e) (l m q : Nat) (k k' k2 : IntKind) (lo : Option Value) (hlo : (lo = none ∧ l = 0) ∨ lo = some (.int k l)) (h1 : l ≤ m) (h2 : m ≤ q) (h3 : q ≤ cap) :
  (Instr.sliceAt T (.slice A len cap) lo (some (.int k' m)) (some (.int k2 q))).run P w = .ok (.slice (if q = l then A else A.map (·.add (l * t.sz))) (m - l) (q - l)) w := by
 have q1 : (l : Int) ≤ (m : Int) := by omega
 have q2 : (m : Int) ≤ (q : Int) := by omega
 have q3 : (q : Int) ≤ (cap : Int) := by omega
 have hb : (Instr.sliceBounds true len cap lo (some (.int k' m)) (some (.int k2 q))).run P w = .ok (l, m, q) w := by
  rcases hlo with ⟨rfl, rfl⟩ | rfl <;> simp [Instr.sliceBounds, run_sliceBound, h1, h2, h3, q1, q2, q3]
 simp only [Instr.sliceAt, Sem.run_bind, run_underlying hu, Result.andThen_ok, Instr.slice, hb, run_sizeOf hT, Sem.run_pure]
theorem roSl3_ok (h : RelC n0 w0 S0 N Fk f a w S V) {T e : TypeId} {t : Ty} {xs : List t.den} {v vh vm : Value} (hu : P.underlying T = some (.slice e)) (hT : TyOk P t e) (hv : Cs w S (.sl e t) xs [v]) {lo : Option Value} {al : List Arg}
  (has : match lo, al with
   | none, [x, y] => ArgOk Fk f w S V x vh ∧ ArgOk Fk f w S V y vm
   | some l, [z, x, y] => ArgOk Fk f w S V z l ∧ ArgOk Fk f w S V x vh ∧ ArgOk Fk f w S V y vm
   | _, _ => False)
  (he : roSl3 e t xs lo.isSome al K) : Out n0 w0 S0 N Fk f a S key K ((Instr.sliceAt T v lo (some vh) (some vm)).run P w) := by
 have hv' := hv
 obtain ⟨A, c, cs, e1, e2, _⟩ := hv'
 injection e1 with e1; subst e1
 unfold roSl3 at he
 split at he
 ·rename_i k m o k' q o'
  cases lo with
  | some l => exact absurd he.1 (by simp)
  | none =>
   obtain ⟨_, h0, h1, h3, h2⟩ := he
   have h4 : (0 : Int) ≤ q := Int.le_trans h0 h1
   obtain ⟨m, rfl⟩ := Int.eq_ofNat_of_zero_le h0
   obtain ⟨q, rfl⟩ := Int.eq_ofNat_of_zero_le h4
   have h1 : m ≤ q := Int.ofNat_le.1 h1
   have h3 : q ≤ xs.length := Int.ofNat_le.1 h3
   rw [has.1.int, has.2.int, run_sliceAt3 hu hT 0 m q .i64 k k' none (.inl ⟨rfl, rfl⟩) (Nat.zero_le _) h1 (Nat.le_trans h3 e2)]
   have := Cs_cut3 hv 0 m q (Nat.zero_le _) (Nat.le_trans h1 h3) h1
   refine Out.ro h h2 (Vs_sl.2 ?_)
   simpa using this
 ·rename_i kl l ol k m o k' q o'
  cases lo with
  | none => exact absurd he.1 (by simp)
  | some vl =>
   obtain ⟨_, h0, h1, h5, h3, h2⟩ := he
   have h6 : (0 : Int) ≤ m := Int.le_trans h0 h1
   have h4 : (0 : Int) ≤ q := Int.le_trans h6 h5
   obtain ⟨l, rfl⟩ := Int.eq_ofNat_of_zero_le h0
   obtain ⟨m, rfl⟩ := Int.eq_ofNat_of_zero_le h6
   obtain ⟨q, rfl⟩ := Int.eq_ofNat_of_zero_le h4
   have h1 : l ≤ m := Int.ofNat_le.1 h1
   have h5 : m ≤ q := Int.ofNat_le.1 h5
   have h3 : q ≤ xs.length := Int.ofNat_le.1 h3
   rw [has.1.int, has.2.1.int, has.2.2.int, run_sliceAt3 hu hT l m q kl k k' _ (.inr rfl) h1 h5 (Nat.le_trans h3 e2)]
   exact Out.ro h h2 (Vs_sl.2 (Cs_cut3 hv l m q h1 (Nat.le_trans h5 h3) h5))
 ·exact he.elim
theorem aSli3_ok (hTE : ∀ e t, TE e = some t → TyOk P t e) (h : RelC n0 w0 S0 N Fk f a w S V) {T : TypeId} {x : Arg} {vx vh vm : Value} {lo : Option Value} {al : List Arg} (hx : ArgOk Fk f w S V x vx)
  (has : match lo, al with
   | none, [x, y] => ArgOk Fk f w S V x vh ∧ ArgOk Fk f w S V y vm
   | some l, [z, x, y] => ArgOk Fk f w S V z l ∧ ArgOk Fk f w S V x vh ∧ ArgOk Fk f w S V y vm
   | _, _ => False) (he : aSli3 TE T lo.isSome (x :: al) K) : Out n0 w0 S0 N Fk f a S key K ((Instr.sliceAt T vx lo (some vh) (some vm)).run P w) := by
 unfold aSli3 at he
 split at he
 ·rename_i e t xs o as' heq
  simp only [List.cons.injEq] at heq
  obtain ⟨rfl, rfl⟩ := heq
  have hT := hTE _ _ he.1
  unfold TyOk at hT
  exact roSl3_ok h hT.1 hT.2.2.1 (Vs_sl.1 hx.pv) has he.2
 ·rename_i k o as' heq
  simp only [List.cons.injEq] at heq
  obtain ⟨rfl, rfl⟩ := heq
  obtain ⟨h1, h2, h3⟩ := he
  have hT := hTE _ _ h2
  unfold TyOk at hT
  obtain ⟨ho, hs⟩ := hx.sh rfl
  have h4 := h.ob _ _ ho
  rw [OR_fz hT.2.2.2.2 h1] at h4
  rw [← hx.pv _ _ hs] at h4
  exact roSl3_ok h hT.1 hT.2.2.1 h4 has h3
 ·exact he.elim
theorem run_sliceB {len cap : Nat} (l m : Nat) (k k' : IntKind) (lo hi : Option Value) (hlo : (lo = none ∧ l = 0) ∨ lo = some (.int k l)) (hhi : (hi = none ∧ m = len) ∨ hi = some (.int k' m)) (h1 : l ≤ m) (h2 : m ≤ cap) :
  (Instr.sliceBounds true len cap lo hi none).run P w = .ok (l, m, cap) w := by
 have q1 : (l : Int) ≤ (m : Int) := by omega
 have q2 : (m : Int) ≤ (cap : Int) := by omega
 rcases hlo with ⟨rfl, rfl⟩ | rfl <;> rcases hhi with ⟨rfl, rfl⟩ | rfl <;> simp [Instr.sliceBounds, run_sliceBound, h1, h2, q1, q2]
theorem run_sliceAt {T e : TypeId} {t : Ty} {A : Option Addr} {len cap : Nat} (hu : P.underlying T = some (.slice e)) (hT : TyOk P t e) (l m : Nat) (k k' : IntKind) (lo hi : Option Value) (hlo : (lo = none ∧ l = 0) ∨ lo = some (.int k l)) (hhi : (hi = none ∧ m = len) ∨ hi = some (.int k' m)) (h1 : l ≤ m) (h2 : m ≤ cap) :
  (Instr.sliceAt T (.slice A len cap) lo hi none).run P w = .ok (.slice (if cap = l then A else A.map (·.add (l * t.sz))) (m - l) (cap - l)) w := by
 simp only [Instr.sliceAt, Sem.run_bind, run_underlying hu, Result.andThen_ok, Instr.slice, run_sliceB l m k k' lo hi hlo hhi h1 h2, run_sizeOf hT, Sem.run_pure]
theorem roSl_ok (h : RelC n0 w0 S0 N Fk f a w S V) {T e : TypeId} {t : Ty} {xs : List t.den} {v : Value} (hu : P.underlying T = some (.slice e)) (hT : TyOk P t e) (hv : Cs w S (.sl e t) xs [v]) {lo hi : Option Value} {al : List Arg}
  (has : match lo, hi, al with
   | none, none, [] => True
   | some l, none, [x] => ArgOk Fk f w S V x l
   | none, some l, [x] => ArgOk Fk f w S V x l
   | some l, some m, [x, y] => ArgOk Fk f w S V x l ∧ ArgOk Fk f w S V y m
   | _, _, _ => False)
  (he : roSl e t xs lo.isSome hi.isSome al K) : Out n0 w0 S0 N Fk f a S key K ((Instr.sliceAt T v lo hi none).run P w) := by
 have hv' := hv
 obtain ⟨A, c, cs, e1, e2, _⟩ := hv'
 injection e1 with e1; subst e1
 unfold roSl at he
 split at he
 ·cases lo <;> cases hi <;> simp only [Option.isSome] at he <;> try exact he.elim
  rw [run_sliceAt hu hT 0 xs.length .i64 .i64 none none (.inl ⟨rfl, rfl⟩) (.inl ⟨rfl, rfl⟩) (Nat.zero_le _) e2]
  have := Cs_cut hv 0 xs.length (Nat.zero_le _) (Nat.le_refl _)
  refine Out.ro h he (Vs_sl.2 ?_)
  simpa using this
 ·rename_i k l o
  cases lo <;> cases hi <;> simp only [Option.isSome] at he has <;> try exact he.elim
  ·obtain ⟨h0, h1, h2⟩ := he
   obtain ⟨l, rfl⟩ := Int.eq_ofNat_of_zero_le h0
   have h1 : l ≤ xs.length := Int.ofNat_le.1 h1
   rw [has.int, run_sliceAt hu hT 0 l .i64 k none _ (.inl ⟨rfl, rfl⟩) (.inr rfl) (Nat.zero_le _) (Nat.le_trans h1 e2)]
   have := Cs_cut hv 0 l (Nat.zero_le _) h1
   refine Out.ro h h2 (Vs_sl.2 ?_)
   simpa using this
  ·obtain ⟨h0, h1, h2⟩ := he
   obtain ⟨l, rfl⟩ := Int.eq_ofNat_of_zero_le h0
   have h1 : l ≤ xs.length := Int.ofNat_le.1 h1
   rw [has.int, run_sliceAt hu hT l xs.length k .i64 _ none (.inr rfl) (.inl ⟨rfl, rfl⟩) h1 e2]
   have := Cs_cut hv l xs.length h1 (Nat.le_refl _)
   refine Out.ro h h2 (Vs_sl.2 ?_)
   simpa using this
 ·rename_i k l o k' m o'
  cases lo <;> cases hi <;> simp only [Option.isSome] at he has <;> try exact he.elim
  obtain ⟨h0, h1, h3, h2⟩ := he
  have h4 : (0 : Int) ≤ m := Int.le_trans h0 h1
  obtain ⟨l, rfl⟩ := Int.eq_ofNat_of_zero_le h0
  obtain ⟨m, rfl⟩ := Int.eq_ofNat_of_zero_le h4
  have h1 : l ≤ m := Int.ofNat_le.1 h1
  have h3 : m ≤ xs.length := Int.ofNat_le.1 h3
  rw [has.1.int, has.2.int, run_sliceAt hu hT l m k k' _ _ (.inr rfl) (.inr rfl) h1 (Nat.le_trans h3 e2)]
  exact Out.ro h h2 (Vs_sl.2 (Cs_cut hv l m h1 h3))
 ·exact he.elim
theorem Out.vw (h : RelC n0 w0 S0 N Fk f a w S V) {T e : TypeId} {t : Ty} {k l0 n : Nat} {v : Value} (hu : P.underlying T = some (.slice e)) (hT : TyOk P t e) {o : Ob} (ho : f.o k = some o) (hot : o.t = t) (hr : o.t.row = true) (hks : ¬ Fr Fk f k) (hn : l0 + n ≤ o.xs.length)
  {A A' : Option Addr} {m c : Nat} (e1 : V k = .slice A m c) (hc : m ≤ c) (hm : m = o.xs.length) (hv : v = .slice A' n (c - l0)) (hA : n = 0 ∨ A' = A.map (·.add (l0 * t.sz))) {lo hi : Option Value} {al : List Arg}
  (has : match lo, hi, al with
   | none, none, [] => True
   | some l, none, [x] => ArgOk Fk f w S V x l
   | none, some l, [x] => ArgOk Fk f w S V x l
   | some l, some m, [x, y] => ArgOk Fk f w S V x l ∧ ArgOk Fk f w S V y m
   | _, _, _ => False)
  (he : vwSl k n l0 lo.isSome hi.isSome al K) : Out n0 w0 S0 N Fk f a S key K ((Instr.sliceAt T v lo hi none).run P w) := by
 have fin : ∀ (l j : Nat), l ≤ j → j ≤ n → ∀ lo hi (kl kh : IntKind), ((lo = none ∧ l = 0) ∨ lo = some (.int kl l)) → ((hi = none ∧ j = n) ∨ hi = some (.int kh j)) → K (.vw k (l0 + l) (l0 + j)) [] → Out n0 w0 S0 N Fk f a S key K ((Instr.sliceAt T v lo hi none).run P w) := by
  intro l j hlj hjn lo hi kl kh hlo hhi hK
  rw [hv, run_sliceAt hu hT l j kl kh lo hi hlo hhi hlj (by omega)]
  refine Out.pure h hK (fun n' t' e' => ?_) (fun i hi => by rw [List.mem_singleton.1 hi]; exact hks)
  simp only [FS.sh, ho, Option.map_some] at e'
  injection e' with e'; injection e' with q1 q2
  rw [row_ln hr] at q1
  subst q1
  rw [hot] at q2
  subst q2
  refine ⟨by omega, by omega, A, m, c, _, e1, by rw [show l0 + j - (l0 + l) = j - l by omega, show c - (l0 + l) = c - l0 - l by omega], ?_⟩
  by_cases h3 : j = l
  ·left; omega
  ·right
   rw [if_neg (by omega), hA.resolve_left (by omega)]
   cases A <;> simp [add_add, Nat.add_mul]
 unfold vwSl at he
 split at he
 ·cases lo <;> cases hi <;> simp only [Option.isSome] at he <;> try exact he.elim
  exact fin 0 n (Nat.zero_le _) (Nat.le_refl _) none none .i64 .i64 (.inl ⟨rfl, rfl⟩) (.inl ⟨rfl, rfl⟩) (by simpa using he)
 ·rename_i kk l o
  cases lo <;> cases hi <;> simp only [Option.isSome] at he has <;> try exact he.elim
  ·obtain ⟨h0, h1, h2⟩ := he
   obtain ⟨l, rfl⟩ := Int.eq_ofNat_of_zero_le h0
   have h1 : l ≤ n := Int.ofNat_le.1 h1
   rw [has.int]
   exact fin 0 l (Nat.zero_le _) h1 none _ .i64 kk (.inl ⟨rfl, rfl⟩) (.inr rfl) (by simpa using h2)
  ·obtain ⟨h0, h1, h2⟩ := he
   obtain ⟨l, rfl⟩ := Int.eq_ofNat_of_zero_le h0
   have h1 : l ≤ n := Int.ofNat_le.1 h1
   rw [has.int]
   exact fin l n h1 (Nat.le_refl _) _ none kk .i64 (.inr rfl) (.inl ⟨rfl, rfl⟩) (by simpa using h2)
 ·rename_i kk l o k' j o'
  cases lo <;> cases hi <;> simp only [Option.isSome] at he has <;> try exact he.elim
  obtain ⟨h0, h1, h3, h2⟩ := he
  have h4 : (0 : Int) ≤ j := Int.le_trans h0 h1
  obtain ⟨l, rfl⟩ := Int.eq_ofNat_of_zero_le h0
  obtain ⟨j, rfl⟩ := Int.eq_ofNat_of_zero_le h4
  have h1 : l ≤ j := Int.ofNat_le.1 h1
  have h3 : j ≤ n := Int.ofNat_le.1 h3
  rw [has.1.int, has.2.int]
  exact fin l j h1 h3 _ _ kk k' (.inr rfl) (.inr rfl) (by simpa using h2)
 ·exact he.elim
theorem aSli_ok (hTE : ∀ e t, TE e = some t → TyOk P t e) (h : RelC n0 w0 S0 N Fk f a w S V) {T : TypeId} {x : Arg} {vx : Value} {lo hi : Option Value} {al : List Arg} (hx : ArgOk Fk f w S V x vx)
  (has : match lo, hi, al with
   | none, none, [] => True
   | some l, none, [x] => ArgOk Fk f w S V x l
   | none, some l, [x] => ArgOk Fk f w S V x l
   | some l, some m, [x, y] => ArgOk Fk f w S V x l ∧ ArgOk Fk f w S V y m
   | _, _, _ => False) (he : aSli TE T lo.isSome hi.isSome (x :: al) K) : Out n0 w0 S0 N Fk f a S key K ((Instr.sliceAt T vx lo hi none).run P w) := by
 unfold aSli at he
 split at he
 ·rename_i e t xs o as' heq
  simp only [List.cons.injEq] at heq
  obtain ⟨rfl, rfl⟩ := heq
  have hT := hTE _ _ he.1
  unfold TyOk at hT
  exact roSl_ok h hT.1 hT.2.2.1 (Vs_sl.1 hx.pv) has he.2
 ·rename_i k o as' heq
  simp only [List.cons.injEq] at heq
  obtain ⟨rfl, rfl⟩ := heq
  obtain ⟨h2, h3⟩ := he
  have hT := hTE _ _ h2
  unfold TyOk at hT
  obtain ⟨ho, hs⟩ := hx.sh rfl
  have hr := hT.2.2.2.2
  split at h3
  ·rename_i h1
   have h4 := h.ob _ _ ho
   rw [OR_fz hr h1] at h4
   rw [← hx.pv _ _ hs] at h4
   exact roSl_ok h hT.1 hT.2.2.1 h4 has h3
  ·obtain ⟨A, c, cs, e1, e2, _⟩ := h.own_sl ho hr
   refine Out.vw (A' := A) h hT.1 hT.2.2.1 ho rfl hr (hx.ks k (List.mem_cons_self ..)) (by omega) e1 e2 rfl ?_ (.inr ?_) has h3
   ·rw [hx.pv _ _ hs, e1]; rfl
   ·cases A <;> simp [Addr.add]
 ·rename_i k l m o as' heq
  simp only [List.cons.injEq] at heq
  obtain ⟨rfl, rfl⟩ := heq
  obtain ⟨h2, h3⟩ := he
  have hT := hTE _ _ h2
  unfold TyOk at hT
  obtain ⟨ho, hs⟩ := hx.sh rfl
  have hr := hT.2.2.2.2
  obtain ⟨A, c, cs, e1, e2, _⟩ := h.own_sl ho hr
  rw [row_ln hr] at hs
  obtain ⟨hlm, hmn, A', m', c', A2, q1, q2, q6⟩ := hx.pv _ _ hs
  rw [e1] at q1
  obtain ⟨q3, q4, q5⟩ := own_len q1
  subst q3 q4 q5
  exact Out.vw h hT.1 hT.2.2.1 ho rfl hr (hx.ks k (List.mem_cons_self ..)) (by omega) e1 e2 rfl q2 (q6.imp (fun h => by omega) id) has h3
 ·exact he.elim
theorem aLen_ok (hTE : ∀ e t, TE e = some t → TyOk P t e) (h : RelC n0 w0 S0 N Fk f a w S V) {T ty : TypeId} {ts : Array TypeId} (hts : ts.getD 0 0 = T) (hts2 : 0 < ts.size) {x : Arg} {vx : Value} (hx : ArgOk Fk f w S V x vx) (he : aLen TE T [x] K) :
  Out n0 w0 S0 N Fk f a S key K ((Builtin.len_ ts ty #[vx]).run P w) := by
 have hts3 : ts[0]? = some T := by
  rw [← hts]; simp [Array.getD, hts2]
 unfold aLen at he
 split at he
 ·rename_i e t xs o heq
  simp only [List.cons.injEq, and_true] at heq
  subst heq
  have hT := hTE _ _ he.1
  unfold TyOk at hT
  obtain ⟨A, c, cs, e1, _⟩ := Vs_sl.1 hx.pv
  injection e1 with e1
  rw [e1]
  have : (Builtin.len_ ts ty #[.slice A (List.length xs) c]).run P w = .ok (goInt (List.length xs : Int)) w := by simp [Builtin.len_, run_underlying hT.1, hts3]
  rw [this]
  exact Out.ro h he.2 (Vs_int.2 rfl)
 ·rename_i k e e' t' ids m heq
  simp only [List.cons.injEq, and_true] at heq
  subst heq
  have hT := hTE _ _ he.1
  unfold TyOk at hT
  obtain ⟨ho, hs⟩ := hx.sh rfl
  have h5 := (OR_x rfl (h.ob _ _ ho)).2
  have h5 : w.ownsRow 0 e 1 (V k) (List.length ids) (List.map V ids) := h5
  obtain ⟨A, c, e1, _⟩ := own_row h5
  rw [hx.pv _ _ hs, e1]
  have : (Builtin.len_ ts ty #[.slice A (List.length ids) c]).run P w = .ok (goInt (List.length ids : Int)) w := by simp [Builtin.len_, run_underlying hT.1, hts3]
  rw [this]
  exact Out.ro h he.2 (Vs_int.2 rfl)
 ·rename_i k e k' t' xs m heq
  simp only [List.cons.injEq, and_true] at heq
  subst heq
  have hT := hTE _ _ he.1
  unfold TyOk at hT
  obtain ⟨e1, e2, hu, _⟩ := hT
  obtain ⟨ho, hs⟩ := hx.sh rfl
  have h5 := (OR_x rfl (h.ob _ _ ho)).2
  obtain ⟨r, es, c, q1, q2, q3, _⟩ := h5
  rw [hx.pv _ _ hs, q1]
  have : (Builtin.len_ ts ty #[.map (some r)]).run P w = .ok (goInt (List.length xs : Int)) w := by
   have hl := Mp_len q3
   rw [Array.length_toList] at hl
   have hg : (getObj r).run P w = .ok (.map es c) w := by simp [getObj, Sem.run, q2]
   simp [Builtin.len_, run_underlying hu, hts3, hg, hl]
  rw [this]
  exact Out.ro h he.2 (Vs_int.2 rfl)
 ·rename_i k o hn1 hn2 heq
  simp only [List.cons.injEq, and_true] at heq
  subst heq
  have hT := hTE _ _ he.1
  unfold TyOk at hT
  obtain ⟨ho, hs⟩ := hx.sh rfl
  obtain ⟨A, c, cs, e1, _⟩ := h.own_sl ho hT.2.2.2.2
  rw [hx.pv _ _ hs, e1]
  have : (Builtin.len_ ts ty #[.slice A o.xs.length c]).run P w = .ok (goInt (o.xs.length : Int)) w := by simp [Builtin.len_, run_underlying hT.1, hts3]
  rw [this]
  exact Out.ro h he.2 (Vs_int.2 rfl)
 ·rename_i k l m o heq
  simp only [List.cons.injEq, and_true] at heq
  subst heq
  have hT := hTE _ _ he.1
  unfold TyOk at hT
  obtain ⟨ho, hs⟩ := hx.sh rfl
  obtain ⟨_, _, A, m', c, A2, _, q2, _⟩ := hx.pv _ _ hs
  rw [q2]
  have : ∀ A c, (Builtin.len_ ts ty #[.slice A (m - l) c]).run P w = .ok (goInt ((m - l : Nat) : Int)) w := fun A c => by simp [Builtin.len_, run_underlying hT.1, hts3]
  rw [this]
  exact Out.ro h he.2 (Vs_int.2 rfl)
 ·rename_i o heq
  simp only [List.cons.injEq, and_true] at heq
  subst heq
  split at he
  ·rename_i e t hte
   have hT := hTE _ _ hte
   unfold TyOk at hT
   rw [show vx = .slice none 0 0 from hx.pv]
   have : (Builtin.len_ ts ty #[.slice none 0 0]).run P w = .ok (goInt 0) w := by simp [Builtin.len_, run_underlying hT.1, hts3]
   rw [this]
   exact Out.ro h he (Vs_int.2 rfl)
  ·exact he.elim
 ·rename_i s o heq
  simp only [List.cons.injEq, and_true] at heq
  subst heq
  have hT := hTE _ _ he.1
  unfold TyOk at hT
  rw [hx.str]
  have : (Builtin.len_ ts ty #[.string s]).run P w = .ok (goInt (ByteArray.size s : Int)) w := by simp [Builtin.len_, run_underlying hT.1, hts3]
  rw [this]
  exact Out.ro h he.2 (Vs_int.2 rfl)
 ·exact he.elim
theorem aMax_ok (h : RelC n0 w0 S0 N Fk f a w S V) {ty : TypeId} {ts : Array TypeId} {x y : Arg} {vx vy : Value} (hx : ArgOk Fk f w S V x vx) (hy : ArgOk Fk f w S V y vy) (he : aMax [x, y] K) :
  Out n0 w0 S0 N Fk f a S key K ((Builtin.max_ ts ty #[vx, vy]).run P w) := by
 unfold aMax at he
 split at he
 ·rename_i k x o k' y o' heq
  simp only [List.cons.injEq, and_true] at heq
  obtain ⟨rfl, rfl⟩ := heq
  rw [hx.int, hy.int]
  have : (Builtin.max_ ts ty #[.int k x, .int k' y]).run P w = .ok (.int k (if (y : Int) > (x : Int) then y else x)) w := by
   simp [Builtin.max_, Builtin.max2]
  rw [this]
  exact Out.ro h he.2 (Vs_int.2 rfl)
 ·exact he.elim
theorem aMin_ok (h : RelC n0 w0 S0 N Fk f a w S V) {ty : TypeId} {ts : Array TypeId} {x y : Arg} {vx vy : Value} (hx : ArgOk Fk f w S V x vx) (hy : ArgOk Fk f w S V y vy) (he : aMin [x, y] K) :
  Out n0 w0 S0 N Fk f a S key K ((Builtin.min_ ts ty #[vx, vy]).run P w) := by
 unfold aMin at he
 split at he
 ·rename_i k x o k' y o' heq
  simp only [List.cons.injEq, and_true] at heq
  obtain ⟨rfl, rfl⟩ := heq
  rw [hx.int, hy.int]
  have : (Builtin.min_ ts ty #[.int k x, .int k' y]).run P w = .ok (.int k (if (y : Int) < (x : Int) then y else x)) w := by
   simp [Builtin.min_, Builtin.min2]
  rw [this]
  exact Out.ro h he.2 (Vs_int.2 rfl)
 ·exact he.elim
theorem aNilC_ok (h : RelC n0 w0 S0 N Fk f a w S V) {x : Arg} {vx : Value} (hx : ArgOk Fk f w S V x vx) (he : aNilC [x] K) : ((∃ ad, vx = .pointer (some ad)) ∨ ∃ g l m, vx = .func (.func g) l m) ∧ Out n0 w0 S0 N Fk f a S key K (.ok vx w) := by
 unfold aNilC at he
 split at he
 ·rename_i k i fs o heq
  simp only [List.cons.injEq, and_true] at heq
  subst heq
  obtain ⟨ho, hs⟩ := hx.sh rfl
  obtain ⟨_, _, ad, m, c, q, _, _, e3⟩ := hx.pv _ _ hs
  exact ⟨.inl ⟨_, e3⟩, Out.pure h he hx.pv hx.ks⟩
 ·rename_i t x o heq
  simp only [List.cons.injEq, and_true] at heq
  subst heq
  obtain ⟨ad, cs, e1, _⟩ := hx.pv
  exact ⟨.inl ⟨_, e1⟩, Out.pure h he hx.pv hx.ks⟩
 ·rename_i t x o heq
  simp only [List.cons.injEq, and_true] at heq
  subst heq
  obtain ⟨ad, cs, e1, _⟩ := Vs_rf.1 hx.pv
  injection e1 with e1
  exact ⟨.inl ⟨_, e1⟩, Out.pure h he hx.pv hx.ks⟩
 ·rename_i g a c x o heq
  simp only [List.cons.injEq, and_true] at heq
  subst heq
  obtain ⟨l, m, e1, _⟩ := Vs_fn.1 hx.pv
  exact ⟨.inr ⟨_, _, _, e1⟩, Out.pure h he hx.pv hx.ks⟩
 ·exact he.elim
end
end Go.TT
end
section
namespace Go.TT
open Go.RowKit
set_option linter.unusedVariables false
set_option linter.unusedSimpArgs false
theorem fold_set (off : Nat) : ∀ (vs : List Value) (k : Nat) (cs : Array Value), off + k + vs.length ≤ cs.size →
  ((vs.zipIdx k).foldl (fun (cs : Array Value) (q : Value × Nat) => cs.setIfInBounds (off + q.2) q.1) cs).toList = cs.toList.take (off + k) ++ (vs ++ cs.toList.drop (off + k + vs.length))
 | [], k, cs, h => by simp
 | v :: vs, k, cs, h => by
  rw [List.length_cons] at h
  rw [List.zipIdx_cons, List.foldl_cons, fold_set off vs (k + 1) _ (by simp; omega), Array.toList_setIfInBounds]
  have hl : off + k < cs.toList.length := by simp; omega
  rw [List.set_eq_take_append_cons_drop, if_pos hl, List.length_cons]
  have h1 : (cs.toList.take (off + k)).length = off + k := by rw [List.length_take]; omega
  rw [show off + (k + 1) = (cs.toList.take (off + k)).length + 1 by omega, take_app, List.append_assoc]
  congr 1
  rw [show (cs.toList.take (off + k)).length + 1 + vs.length = (cs.toList.take (off + k)).length + (vs.length + 1) by omega, drop_app, List.drop_succ_cons, List.drop_drop]
  simp only [List.take_succ_cons, List.take_zero, List.singleton_append, List.cons_append, List.nil_append]
  rw [show off + k + 1 + vs.length = off + k + (vs.length + 1) by omega]
theorem fold_set' (off : Nat) (vs cs : Array Value) (h : off + vs.size ≤ cs.size) :
  (vs.zipIdx.foldl (fun (cs : Array Value) (q : Value × Nat) => cs.setIfInBounds (off + q.2) q.1) cs).toList = cs.toList.take off ++ (vs.toList ++ cs.toList.drop (off + vs.size)) := by
 rw [← Array.foldl_toList, Array.toList_zipIdx]
 have := fold_set off vs.toList 0 cs (by simpa using h)
 simpa using this
theorem made_cells (z : Array Value) (hz : 0 < z.size) : ∀ n, (madeCells z (n * z.size)).toList = (List.replicate n z.toList).flatten
 | 0 => by simp [madeCells]
 | n + 1 => by
  have ih := made_cells z hz n
  simp only [madeCells, Array.toList_map, Array.toList_range] at ih ⊢
  rw [Nat.add_mul, Nat.one_mul, List.range_add, List.map_append, ih, List.replicate_succ', List.flatten_append]
  congr 1
  simp only [List.flatten_cons, List.flatten_nil, List.append_nil, List.map_map]
  apply List.ext_getElem
  ·simp
  ·intro j h1 h2
   have hj : j < z.size := by simpa using h1
   simp [Nat.mod_eq_of_lt hj, hj]
section
variable {P : Program} {TE : TypeId → Option Ty} {n0 : Nat → Prop} {w0 : World} {S0 : Nat → Prop} {N : Nat} {Fk : Nat → Prop} {f : FS} {a : Act} {w w' : World} {S S' : Nat → Prop} {V V' : Nat → Value} {key : Nat} {K : KK}
theorem fz_row {o : Ob} {v : Value} (h : OR w S V o v) (hm : o.mu = false) : o.t.row = true ∧ Cs w S (.sl o.e o.t) o.xs [v] := by
 rcases hr : o.t.row with _ | _
 ·have := (OR_x hr h).1; rw [hm] at this; cases this
 ·exact ⟨rfl, by rw [OR_fz hr hm] at h; exact h⟩
theorem tvA_ok (h : RelC n0 w0 S0 N Fk f a w S V) {x : Arg} {vx : Value} {K : TV → Prop} (hx : ArgOk Fk f w S V x vx) (he : tvA x K) : ∃ y, K y ∧ Vs w S y.t y.x vx := by
 obtain ⟨p, o⟩ := x
 rcases p with _ | ⟨t', x'⟩ | _ | k | ⟨k, i, fs⟩ | ⟨t', x'⟩ | ⟨k, l, j⟩ | ⟨e1, k⟩ | ⟨_, _⟩ | _ <;> simp only [tvA] at he <;> try exact he.elim
 ·exact ⟨_, he, hx.pv⟩
 ·cases o with
  | none => exact he.elim
  | some o =>
   obtain ⟨h1, h2⟩ := he
   obtain ⟨ho, hs⟩ := hx.sh rfl
   refine ⟨_, h2, Vs_sl.2 ?_⟩
   rw [hx.pv _ _ hs]
   exact (fz_row (h.ob _ _ ho) h1).2
 ·cases o with
  | none => exact he.elim
  | some o =>
   obtain ⟨h1, h2⟩ := he
   obtain ⟨ho, hs⟩ := hx.sh rfl
   obtain ⟨hr, h4⟩ := fz_row (h.ob _ _ ho) h1
   rw [row_ln hr] at hs
   obtain ⟨i0, i1, ad, m, c, q, e1, e2, e3⟩ := hx.pv _ _ hs
   obtain ⟨A, c', cs, e4, _, e5, e6⟩ := h4
   rw [e1] at e4
   injection e4 with e4
   obtain ⟨q1, q2, q3⟩ := own_len e4
   subst q1 q2 q3
   have hi : Int.toNat i < o.xs.length := toNat_lt' i0 i1
   rcases e6 with e6 | ⟨ad', e6, hs', hc⟩
   ·rw [e6] at hi; simp at hi
   injection e6 with e6; subst e6
   have hcel := Cel_el e5 hc _ hi
   rw [getD_of_lt _ _ _ hi] at h2
   obtain ⟨t1, c1, c2, c3⟩ := Cel_pj hcel e2
   rw [add_add] at c3
   exact ⟨_, h2, Vs_rf.2 ⟨_, c1, by rw [e3], by rw [add_block]; exact hs', c2, c3⟩⟩
 ·exact ⟨_, he, Vs_rf.2 (by
   obtain ⟨ad, cs, e, hs, h1, h2⟩ := hx.pv
   exact ⟨ad, cs, by rw [e], hs, h1, h2⟩)⟩
 ·cases o with
  | none => exact he.elim
  | some o =>
   obtain ⟨h1, h2⟩ := he
   obtain ⟨ho, hs⟩ := hx.sh rfl
   obtain ⟨hr, h4⟩ := fz_row (h.ob _ _ ho) h1
   rw [row_ln hr] at hs
   obtain ⟨hlm, hmn, A', m', c', A2, q1, q2, q6⟩ := hx.pv _ _ hs
   rw [q1] at h4
   refine ⟨_, h2, Vs_sl.2 ?_⟩
   rw [q2]
   rcases q6 with q6 | q6
   ·subst q6
    rw [Nat.sub_self]
    have he : (o.xs.take j).drop j = [] := List.drop_of_length_le (by rw [List.length_take]; omega)
    rw [he]
    exact ⟨A2, c' - j, [], rfl, Nat.zero_le _, rfl, .inl rfl⟩
   ·by_cases hj : j = l
    ·subst hj
     rw [Nat.sub_self]
     have he : (o.xs.take j).drop j = [] := List.drop_of_length_le (by rw [List.length_take]; omega)
     rw [he]
     exact ⟨A2, c' - j, [], rfl, Nat.zero_le _, rfl, .inl rfl⟩
    ·have := Cs_cut h4 l j hlm hmn
     obtain ⟨A3, c3, cs3, e3, e4, _⟩ := h4
     injection e3 with e3
     obtain ⟨q7, q8, q9⟩ := own_len e3
     rw [if_neg (by omega)] at this
     rw [q6]; exact this
 ·cases o with
  | none => exact he.elim
  | some o =>
   obtain ⟨h1, h2⟩ := he
   obtain ⟨ho, hs⟩ := hx.sh rfl
   obtain ⟨hr, h4⟩ := fz_row (h.ob _ _ ho) h1
   obtain ⟨ad, c, q1, q2, q3, q4⟩ := hx.pv _ _ hs
   refine ⟨_, h2, Vs_sl.2 ⟨some ad, c, [V k], by rw [q1]; rfl, q2, ⟨[V k], [], rfl, h4, rfl⟩, .inr ⟨ad, rfl, q3, fun j u hj => ?_⟩⟩⟩
   cases j with
   | zero =>
    have hj : some (V k) = some u := hj
    injection hj with hj; subst hj
    rw [show ad.add 0 = ad from rfl]; exact q4
   | succ j => cases hj
theorem shd_ok (h : RelC n0 w0 S0 N Fk f a w S V) {x : Arg} {vx : Value} {t : Ty} {K : t.den → Prop} (hx : ArgOk Fk f w S V x vx) (he : shd t x K) : ∃ y, K y ∧ Vs w S t y vx := by
 obtain ⟨p, o⟩ := x
 cases p <;> simp only [shd] at he <;> try exact he.elim
 ·obtain ⟨y, e, k⟩ := TV.ofT_out he
  injection e with e1 e2
  subst e1
  cases e2
  exact ⟨_, k, hx.pv⟩
 ·cases t <;> simp only at he <;> try exact he.elim
  exact ⟨[], he, Vs_sl.2 ⟨none, 0, [], by rw [show vx = .slice none 0 0 from hx.pv]; rfl, Nat.le_refl _, rfl, .inl rfl⟩⟩
 ·cases o with
  | none => exact he.elim
  | some o =>
   obtain ⟨h1, h2⟩ := he
   obtain ⟨y, e, k⟩ := TV.ofT_out h2
   have h4 := tvA_ok h hx (K := fun tv => tv = ⟨.sl o.e o.t, o.xs⟩) ⟨h1, rfl⟩
   obtain ⟨tv, rfl, h4⟩ := h4
   rw [e] at h4
   exact ⟨y, k, h4⟩
 ·cases o with
  | none => exact he.elim
  | some o =>
   obtain ⟨h1, h2⟩ := he
   obtain ⟨y, e, k⟩ := TV.ofT_out h2
   have h4 := tvA_ok h hx (K := fun tv => tv = ⟨.rf _, _⟩) ⟨h1, rfl⟩
   obtain ⟨tv, rfl, h4⟩ := h4
   rw [e] at h4
   exact ⟨y, k, h4⟩
 ·obtain ⟨y, e, k⟩ := TV.ofT_out he
  have h4 := tvA_ok h hx (K := fun tv => tv = ⟨.rf _, _⟩) rfl
  obtain ⟨tv, rfl, h4⟩ := h4
  rw [e] at h4
  exact ⟨y, k, h4⟩
 ·cases o with
  | none => exact he.elim
  | some o =>
   obtain ⟨h1, h2⟩ := he
   obtain ⟨y, e, k⟩ := TV.ofT_out h2
   have h4 := tvA_ok h hx (K := fun tv => tv = ⟨.sl o.e o.t, _⟩) ⟨h1, rfl⟩
   obtain ⟨tv, rfl, h4⟩ := h4
   rw [e] at h4
   exact ⟨y, k, h4⟩
 ·cases o with
  | none => exact he.elim
  | some o =>
   obtain ⟨h1, h2⟩ := he
   obtain ⟨y, e, k⟩ := TV.ofT_out h2
   have h4 := tvA_ok h hx (K := fun tv => tv = ⟨.sl _ (.sl o.e o.t), _⟩) ⟨h1, rfl⟩
   obtain ⟨tv, rfl, h4⟩ := h4
   rw [e] at h4
   exact ⟨y, k, h4⟩
theorem OR_new {o : Ob} {v : Value} {cs : List Value} (hr : o.t.row = true) (hm : o.mu = true) (h1 : w.ownsRow 0 o.e o.t.sz v o.xs.length cs) (h2 : Fl (Cs w S o.t) o.xs cs) : OR w S V o v := by
 rw [OR_own hr hm]; exact ⟨cs, h1, h2⟩
theorem sh_new {key : Nat} {o : Ob} : (f.new key o).sh key = some (o.ln, o.t) := by simp [FS.sh, FS.new, upd]
theorem nids {o : Ob} {Q : Nat → Prop} (hr : o.t.row = true) : ∀ i ∈ idsOf o, Q i := fun i hi => by rw [row_ids hr] at hi; cases hi
theorem Cs_row {t : Ty} {x : t.den} {cs : List Value} (h : Cs w S t x cs) : t.row = true := by cases t <;> first | rfl | exact h.elim
theorem Vs_row {t : Ty} {x : t.den} {v : Value} (h : Vs w S t x v) : t.row = true := by obtain ⟨cs, h, _⟩ := h; exact Cs_row h
theorem upd_self {α : Type} (g : Nat → α) (k : Nat) (x : α) : upd g k x k = x := by simp [upd]
theorem aMake_ok (hTE : ∀ e t, TE e = some t → TyOk P t e) (h : RelC n0 w0 S0 N Fk f a w S V) (hk : Fk key) {T : TypeId} {x y : Arg} {vx vy : Value} (hx : ArgOk Fk f w S V x vx) (hy : ArgOk Fk f w S V y vy) (he : aMake TE key T [x, y] K) :
  Out n0 w0 S0 N Fk f a S key K ((Instr.makeSlice T vx vy).run P w) := by
 unfold aMake at he
 split at he
 ·rename_i k1 n o1 k2 c o2 heq
  simp only [List.cons.injEq, and_true] at heq
  obtain ⟨rfl, rfl⟩ := heq
  split at he
  ·rename_i e t hte
   obtain ⟨h1, h2, h3, h4⟩ := he
   have hT := hTE _ _ hte
   unfold TyOk at hT
   obtain ⟨hu, _, hT, hz, hr⟩ := hT
   obtain ⟨i, z, i1, i2, i3, i4, i5⟩ := hT.info.ex
   have hn : 0 ≤ w.heap.size := Nat.zero_le _
   have hzc := Cs_zero (w := w) (S := S) t (hT.zok hr)
   obtain ⟨c, rfl⟩ := Int.eq_ofNat_of_zero_le h2
   have h3 : c ≤ 281474976710656 / t.by := h3
   have hb : i.bytes * c ≤ 281474976710656 := by
    rw [Nat.mul_comm]
    exact Nat.le_trans (Nat.mul_le_mul h3 i5) (Nat.div_mul_le_self _ _)
   have hm : c ≤ maxLen := by
    have := Nat.div_le_self 281474976710656 t.by
    simp only [maxLen]; omega
   rw [hx.int, hy.int]
   rcases h1 with h1 | h1
   ·have h1 : n = (c : Int) := h1
    subst h1
    obtain ⟨w', r1, r2, r3⟩ := run_make_full (P := P) w 0 T e i z t.sz hu i1 i2 i4 k1 k2 c hb hm hn
    rw [r1]
    have hzs : z.cells.size = t.sz := by rw [← Array.length_toList, i3, zc_len]
    refine Out.own (o := ⟨e, t, List.replicate c t.zv, true⟩) h (below_grown r3) hk (vs := .slice (some ⟨w.heap.size, 0, none⟩) c c) rfl (OR_new hr rfl (by simpa using r2) ?_) (nids hr) h4 (fun n' t' e' => ?_) (fun k hk => by simpa [PV.keys] using hk)
    ·rw [← hzs, made_cells _ (by omega), i3]
     exact Fl_replicate (Cs_zero t (hT.zok hr)) c
    ·rw [upd_self]
   ·have h1 : n = 0 := h1
    subst h1
    obtain ⟨w', r1, r2, r3⟩ := run_make_own (P := P) w 0 T e i z t.sz hu i1 i2 i4 k1 k2 c hb hm hn
    rw [r1]
    refine Out.own (o := ⟨e, t, List.replicate 0 t.zv, true⟩) h (below_grown r3) hk (vs := .slice (some ⟨w.heap.size, 0, none⟩) 0 c) rfl (OR_new hr rfl (by simpa using r2) rfl) (nids hr) h4 (fun n' t' e' => ?_) (fun k hk => by simpa [PV.keys] using hk)
    rw [upd_self]
  ·exact he.elim
 ·exact he.elim
theorem row_one {e : TypeId} {t : Ty} {x : t.den} {cells : Array Value} (hc : Cs w S t x cells.toList) (ha : Ag S w (w.alloc (.cells cells e))) :
  OR (w.alloc (.cells cells e)) S V ⟨e, t, [x], true⟩ (.slice (some ⟨w.heap.size, 0, none⟩) 1 1) := by
 refine OR_new (cs := cells.toList) (Cs_row hc) rfl (World.ownsRow_lit w cells 1 (Nat.zero_le _) (by simp [maxLen]) ?_) (Fl_one (Cs_mono (fun _ h => h) ha hc))
 rw [← Array.length_toList, Cs_len hc, Nat.one_mul]
theorem RelC.ag_new (h : RelC n0 w0 S0 N Fk f a w S V) (o : Obj) : Ag S w (w.alloc o) := fun b hb => (below_new w o).block b (h.lt b hb)
theorem ptr_new {e : TypeId} {t : Ty} {x : t.den} {w2 : World} {m : Nat} (hr : t.row = true) : PV1 w2 S (upd V key (.slice (some ⟨m, 0, none⟩) 1 1)) (f.new key ⟨e, t, [x], true⟩).sh (.ptr key 0 []) (.pointer (some ⟨m, 0, none⟩)) := by
 intro n' t' e'
 rw [sh_new, row_ln hr] at e'
 injection e' with e'; injection e' with q1 q2; subst q1 q2
 refine ⟨Int.le_refl _, by simp, _, _, _, (0, t), upd_self _ _ _, by unfold Ty.off; rfl, ?_⟩
 simp [Addr.add]
theorem aAlloc_ok (hTE : ∀ e t, TE e = some t → TyOk P t e) (h : RelC n0 w0 S0 N Fk f a w S V) (hk : Fk key) {e : TypeId} (he : aAlloc TE key e [] K) :
  Out n0 w0 S0 N Fk f a S key K ((Instr.alloc e true (.tuple #[])).run P w) := by
 unfold aAlloc at he
 simp only at he
 split at he
 ·rename_i t hte
  have hT := hTE _ _ hte
  obtain ⟨i, z, i1, i2, i3, i4, i5⟩ := hT.info.ex
  have hr := he.1.2
  have : (Instr.alloc e true (.tuple #[])).run P w = .ok (.pointer (some ⟨w.heap.size, 0, none⟩)) (w.alloc (.cells z.cells e)) := by
   simp [Instr.alloc, zeroValue, typeInfo, i1, i2, newVar, newRow]
  rw [this]
  exact Out.own (o := ⟨e, t, [t.zv], true⟩) h (below_new _ _) hk (vs := .slice (some ⟨w.heap.size, 0, none⟩) 1 1) rfl (row_one (by rw [i3]; exact Cs_zero t (hT.zok hr)) (h.ag_new _)) (nids hr) he.2 (ptr_new (S := S) (w2 := w) hr) (fun k hk => by simpa [PV.keys] using hk)
 ·exact he.elim
theorem aBox_ok (hTE : ∀ e t, TE e = some t → TyOk P t e) (h : RelC n0 w0 S0 N Fk f a w S V) (hk : Fk key) {e : TypeId} {x : Arg} {vx : Value} (hx : ArgOk Fk f w S V x vx) (he : aBox TE key e [x] K) :
  Out n0 w0 S0 N Fk f a S key K ((Instr.box e vx).run P w) := by
 unfold aBox at he
 simp only at he
 split at he
 ·rename_i t hte
  obtain ⟨y, h1, h2⟩ := shd_ok h hx he.2
  have hr := Vs_row h2
  have : (Instr.box e vx).run P w = .ok (.pointer (some ⟨w.heap.size, 0, none⟩)) (w.alloc (.cells vx.cells e)) := by
   simp [Instr.box, newVar, newRow]
  rw [this]
  exact Out.own (o := ⟨e, t, [y], true⟩) h (below_new _ _) hk (vs := .slice (some ⟨w.heap.size, 0, none⟩) 1 1) rfl (row_one (Vs_cells h2) (h.ag_new _)) (nids hr) h1 (ptr_new (S := S) (w2 := w) hr) (fun k hk => by simpa [PV.keys] using hk)
 ·exact he.elim
theorem lst_ok (h : RelC n0 w0 S0 N Fk f a w S V) {t : Ty} : ∀ {al : List Arg} {vs : List Value} {K : List t.den → Prop}, al.length = vs.length → (∀ (j : Nat) (x : Arg) (v : Value), al[j]? = some x → vs[j]? = some v → ArgOk Fk f w S V x v) → lst t al K →
  ∃ xs, K xs ∧ xs.length = vs.length ∧ Fl (Cs w S t) xs (vs.map (·.cells.toList)).flatten ∧ ∀ v ∈ vs, v.cells.size = t.sz
 | [], [], K, _, _, he => ⟨[], he, rfl, rfl, fun v hv => by cases hv⟩
 | a :: al, v :: vs, K, hl, hA, he => by
  obtain ⟨y, h1, h2⟩ := shd_ok h (hA 0 a v rfl rfl) he
  obtain ⟨xs, h3, h4, h5, h6⟩ := lst_ok h (al := al) (vs := vs) (by simpa using hl) (fun j x v hx hv => hA (j + 1) x v hx hv) h1
  refine ⟨y :: xs, h3, by simp [h4], ⟨_, _, rfl, Vs_cells h2, h5⟩, fun u hu => ?_⟩
  rcases List.mem_cons.1 hu with rfl | hu
  ·rw [← Array.length_toList]; exact Cs_len (Vs_cells h2)
  ·exact h6 u hu
 | [], _ :: _, _, hl, _, _ => by simp at hl
 | _ :: _, [], _, hl, _, _ => by simp at hl
theorem fill_lst {z : Nat} : ∀ (vs : List Value) (k : Nat) (cells : Array Value), (∀ v ∈ vs, v.cells.size = z) → cells.size = (k + vs.length) * z →
  ∃ r, Instr.fill (fun i => some (i * z, z)) cells ((vs.zipIdx k).map fun q => (q.2, q.1)) = some r ∧ r.toList = cells.toList.take (k * z) ++ (vs.map (·.cells.toList)).flatten
 | [], k, cells, _, hs => ⟨cells, rfl, by simp; rw [List.take_of_length_le (by simp [hs])]⟩
 | v :: vs, k, cells, hz, hs => by
  have hv := hz v List.mem_cons_self
  have hb : k * z + z ≤ cells.size := by rw [hs, List.length_cons, ← Nat.succ_mul]; exact Nat.mul_le_mul_right _ (by omega)
  have hf := fold_set' (k * z) v.cells cells (by rw [hv]; exact hb)
  have hsz : (v.cells.zipIdx.foldl (fun (cs : Array Value) (q : Value × Nat) => cs.setIfInBounds (k * z + q.2) q.1) cells).size = cells.size := by
   rw [← Array.length_toList, hf]; simp; omega
  obtain ⟨r, r1, r2⟩ := fill_lst vs (k + 1) (v.cells.zipIdx.foldl (fun (cs : Array Value) (q : Value × Nat) => cs.setIfInBounds (k * z + q.2) q.1) cells) (fun u hu => hz u (List.mem_cons_of_mem _ hu)) (by rw [hsz, hs, List.length_cons]; congr 1; omega)
  refine ⟨r, ?_, ?_⟩
  ·rw [List.zipIdx_cons, List.map_cons]
   simp only [Instr.fill, hv, ne_eq, not_true_eq_false, decide_false, Bool.false_or, show ¬ (k * z + z > cells.size) by omega, Bool.false_eq_true, if_false]
   exact r1
  ·have hl : (cells.toList.take (k * z) ++ v.cells.toList).length = (k + 1) * z := by
    rw [List.length_append, List.length_take, Array.length_toList, Array.length_toList, Nat.succ_mul, hv]; omega
   rw [r2, hf, List.map_cons, List.flatten_cons, ← List.append_assoc, ← List.append_assoc, ← hl, List.take_left]
theorem one_ok (hTE : ∀ e t, TE e = some t → TyOk P t e) (h : RelC n0 w0 S0 N Fk f a w S V) {T e e' : TypeId} {t' : Ty} {j : Nat} {xs : List t'.den} {vx : Value} {parts : Array (Nat × Value)} (hx : ArgOk Fk f w S V (.own j, some ⟨e', t', xs, true⟩) vx)
  (hp : parts.toList = [(0, vx)]) (hr : t'.row = true) (hte : TE T = some (.sl e (.sl e' t'))) (hK : K (.one e j) []) : Out n0 w0 S0 N Fk f a S key K ((Instr.buildSlice T 1 parts).run P w) := by
 have hT := hTE _ _ hte
 unfold TyOk at hT
 obtain ⟨hu, _, hT, _⟩ := hT
 obtain ⟨i, z, i1, i2, i3, i4, i5⟩ := hT.info.ex
 obtain ⟨ho, hs⟩ := hx.sh rfl
 have hv : vx = V j := hx.pv _ _ hs
 have h1 := h.ob _ _ ho
 rw [OR_own (o := ⟨e', t', xs, true⟩) hr rfl] at h1
 obtain ⟨cs, h2, h3⟩ := h1
 obtain ⟨A, c, e1, _⟩ := own_row h2
 have hvc : vx.cells = #[vx] := by rw [hv, e1]; rfl
 have hsz : i.size = 1 := by rw [i4]; rfl
 have hrun : (Instr.buildSlice T 1 parts).run P w = .ok (.slice (some ⟨w.heap.size, 0, none⟩) 1 1) (w.alloc (.cells #[vx] e)) := by
  have hf : Instr.fill (fun i => some (i, 1)) ((Array.range 1).map fun i => z.cells[i % z.cells.size]!) parts.toList = some #[vx] := by
   obtain ⟨r, r1, r2⟩ := fill_lst (z := 1) [vx] 0 ((Array.range 1).map fun i => z.cells[i % z.cells.size]!) (fun v hv => by rw [List.mem_singleton.1 hv, hvc]; rfl) (by simp)
   have r3 : r = #[vx] := Array.ext' (by rw [r2]; simp [hvc])
   simp only [Nat.mul_one] at r1
   rw [hp, ← r3]; exact r1
  simp only [Instr.buildSlice, Sem.run_bind, run_underlying hu, Result.andThen_ok, run_sizeOf hT]
  show (Sem.run P _ w) = _
  simp only [Ty.sz, Nat.mul_one, Sem.run_ite, show ¬ ((1 : Nat) > 2 ^ 24) by omega, if_false, Sem.run_pure, Result.andThen_ok, show ¬ ((1 : Nat) = 0) by omega, zeroValue, typeInfo, Sem.run_bind, run_program, i1, i2, hf]
  rfl
 rw [hrun]
 have hb := below_new w (.cells #[vx] e)
 have hg := h.grow hb
 have hx2 := hg.ext (S' := fun b => b = w.heap.size) (fun b hb' => by rw [hb']; show w.heap.size < (w.heap.push _).size; simp) (fun b hb' hn => absurd (h.size b (by omega)) hn) (fun k o b ho' hm hb' q => by
  have := (h.ow k o ho' hm b hb').2; omega)
 refine ⟨.one e j, [], _, _, _, V, hK, rfl, hx2.keys (fun _ h => h.1), fun n t q => ⟨_, _, rfl, Nat.le_refl _, .inr rfl, ?_⟩, fun k h1 h2 => hx.ks k h1 (h2.imp (fun h => h.1) id)⟩
 rw [← hv]
 show World.cell? _ _ = _
 have hc : (w.alloc (.cells #[vx] e)).heap[w.heap.size]? = some (.cells #[vx] e) := by show (w.heap.push _)[w.heap.size]? = _; simp
 unfold World.cell?
 simp only [hc]
 rfl
theorem aBldS_ok (hTE : ∀ e t, TE e = some t → TyOk P t e) (h : RelC n0 w0 S0 N Fk f a w S V) (hk : Fk key) {T : TypeId} {n : Nat} {al : List Arg} {ix : List Nat} {vs : List Value} {parts : Array (Nat × Value)}
  (hp : parts.toList = ix.zip vs) (hl : al.length = vs.length) (hA : ∀ (j : Nat) (x : Arg) (v : Value), al[j]? = some x → vs[j]? = some v → ArgOk Fk f w S V x v) (he : aBldS TE key T n ix al K) :
  Out n0 w0 S0 N Fk f a S key K ((Instr.buildSlice T n parts).run P w) := by
 unfold aBldS at he
 split at he
 ·rename_i j e' t' hone
  split at he
  ·rename_i e t2 hte
   obtain ⟨⟨rfl, rfl, hr, rfl⟩, hK⟩ := he
   unfold one1 at hone
   split at hone
   ·injection hone with hone
    injection hone with q1 hone
    injection hone with q2 q3
    subst q1 q2 q3
    match vs, hl with
    | [v], _ => exact one_ok hTE h (hA 0 _ v rfl rfl) (by rw [hp]; rfl) hr hte hK
   ·cases hone
  ·exact he.elim
 split at he
 ·rename_i e t hte
  obtain ⟨h1, h2, h3, h4⟩ := he
  have hT := hTE _ _ hte
  unfold TyOk at hT
  obtain ⟨hu, _, hT, hz, hr⟩ := hT
  obtain ⟨i, z, i1, i2, i3, i4, i5⟩ := hT.info.ex
  have hn : 0 ≤ w.heap.size := Nat.zero_le _
  obtain ⟨xs, k1, k2, k3, k4⟩ := lst_ok h hl hA h4
  have hzs : z.cells.size = t.sz := by rw [← Array.length_toList, i3, zc_len]
  have hvn : vs.length = n := by rw [← hl, h2]
  have hparts : parts.toList = (vs.zipIdx 0).map fun q => (q.2, q.1) := by
   rw [hp, h1, ← hvn]
   apply List.ext_getElem?
   intro j
   rw [List.getElem?_map, List.getElem?_zipIdx]
   by_cases hj : j < vs.length
   ·simp [List.zip, hj]
   ·simp [List.zip, hj]
  have hroom : ¬ (n * t.sz > 2 ^ 24) := by omega
  obtain ⟨r, r1, r2⟩ := fill_lst (z := t.sz) vs 0 (madeCells z.cells (n * t.sz)) k4 (by rw [size_madeCells, hvn, Nat.zero_add])
  have r2' : r.toList = (vs.map (·.cells.toList)).flatten := by rw [r2]; simp
  have hrs : r.size = n * t.sz := by rw [← Array.length_toList, r2', Fl_len (fun _ _ => Cs_len) k3, k2, hvn]
  have : (Instr.buildSlice T n parts).run P w = .ok (.slice (some ⟨w.heap.size, 0, none⟩) n n) (w.alloc (.cells r e)) := by
   simp only [Instr.buildSlice, Sem.run_bind, run_underlying hu, Result.andThen_ok, run_sizeOf hT, Sem.run_ite, hroom, if_false, run_unsupported, Sem.run_pure]
   by_cases h0 : n * t.sz = 0
   ·have hm0 : madeCells z.cells (n * t.sz) = #[] := by rw [h0]; simp [madeCells]
    rw [hm0] at r1
    simp only [h0, if_true, Sem.run_pure, Result.andThen_ok]
    rw [show (Array.map (fun x => (#[] : Array Value)[x % (#[] : Array Value).size]!) (Array.range 0)) = #[] by simp, hparts, r1]
    rfl
   ·simp only [h0, if_false, zeroValue, typeInfo, Sem.run_bind, run_program, Result.andThen_ok, i1, i2, Sem.run_pure]
    rw [show (Array.map (fun x => z.cells[x % z.cells.size]!) (Array.range (n * t.sz))) = madeCells z.cells (n * t.sz) from rfl, hparts, r1]
    rfl
  rw [this]
  have ha := h.ag_new (.cells r e)
  refine Out.own (o := ⟨e, t, xs, true⟩) h (below_new _ _) hk (vs := .slice (some ⟨w.heap.size, 0, none⟩) n n) rfl (OR_new (cs := r.toList) hr rfl ?_ (by rw [r2']; exact Fl_Cs_mono (fun _ h => h) ha k3)) (nids hr) k1 (fun n' t' e' => ?_) (fun k hk => by simpa [PV.keys] using hk)
  ·rw [show xs.length = n by omega]
   exact World.ownsRow_lit w r n hn (by have := Nat.le_mul_of_pos_right n hz; simp only [maxLen]; omega) hrs
  ·rw [upd_self]
 ·exact he.elim
end
end Go.TT
end
section
namespace Go.TT
open Go.RowKit
set_option linter.unusedVariables false
set_option linter.unusedSimpArgs false
theorem FdOk_all {P : Program} : ∀ {t : Ty} {fs : List Field} {o : Nat}, FdOk P t fs o → ∀ fd ∈ fs, ∃ q, TyOk P q fd.type
 | .pr a b, fd :: fs, o, h, x, hx => by
  unfold FdOk at h
  rcases List.mem_cons.1 hx with rfl | hx
  ·exact ⟨a, h.2.1⟩
  ·exact FdOk_all h.2.2.2 x hx
 | .un, [], _, _, x, hx => by cases hx
 | .un, _ :: _, _, h, _, _ => by unfold FdOk at h; exact h.elim
 | .pr _ _, [], _, h, _, _ => by unfold FdOk at h; exact h.elim
 | .int _, _, _, h, _, _ => by unfold FdOk at h; exact h.elim
 | .bool, _, _, h, _, _ => by unfold FdOk at h; exact h.elim
 | .str, _, _, h, _, _ => by unfold FdOk at h; exact h.elim
 | .sl _ _, _, _, h, _, _ => by unfold FdOk at h; exact h.elim
 | .rf _, _, _, h, _, _ => by unfold FdOk at h; exact h.elim
 | .fn _ _ _, _, _, h, _, _ => by unfold FdOk at h; exact h.elim
 | .ifc _ _, _, _, h, _, _ => by unfold FdOk at h; exact h.elim
 | .id _ _, _, _, h, _, _ => by unfold FdOk at h; exact h.elim
 | .mp _ _, _, _, h, _, _ => by unfold FdOk at h; exact h.elim
 | .ar _, _, _, h, _, _ => by unfold FdOk at h; exact h.elim
theorem cellsOf_ty {P : Program} {t : Ty} {e : TypeId} (h : TyOk P t e) : P.cellsOf e = t.sz := by
 obtain ⟨i, z, i1, i2, i3, i4, i5⟩ := h.info.ex
 simp [Program.cellsOf, i1, i4]
theorem run_mapM {P : Program} {w : World} : ∀ (fs : List Field), (∀ fd ∈ fs, ∃ q, TyOk P q fd.type) →
  (fs.mapM fun f => (do pure (f.offset, ← sizeOf f.type) : Sem (Nat × Nat))).run P w = .ok (fs.map fun f => (f.offset, P.cellsOf f.type)) w
 | [], _ => by simp
 | fd :: fs, h => by
  obtain ⟨q, hq⟩ := h fd List.mem_cons_self
  have ih := run_mapM (P := P) (w := w) fs (fun x hx => h x (List.mem_cons_of_mem _ hx))
  simp only [List.mapM_cons, Sem.run_bind, run_sizeOf hq, Result.andThen_ok, Sem.run_pure, ih, List.map_cons, cellsOf_ty hq]
section
variable {P : Program} {TE : TypeId → Option Ty} {n0 : Nat → Prop} {w0 : World} {S0 : Nat → Prop} {N : Nat} {Fk : Nat → Prop} {f : FS} {a : Act} {w w' : World} {S S' : Nat → Prop} {V V' : Nat → Value} {key : Nat} {K : KK}
theorem fill_bld (h : RelC n0 w0 S0 N Fk f a w S V) {t : Ty} {place : Nat → Option (Nat × Nat)} (hpl : ∀ i q, t.off [i] = some q → place i = some (q.1, q.2.sz)) : ∀ {ix : List Nat} {al : List Arg} {vs : List Value} {x : t.den} {cells : Array Value} {K : t.den → Prop},
  al.length = vs.length → (∀ (j : Nat) (x : Arg) (v : Value), al[j]? = some x → vs[j]? = some v → ArgOk Fk f w S V x v) → bld t ix al x K → Cs w S t x cells.toList → ∃ y r, K y ∧ Instr.fill place cells (ix.zip vs) = some r ∧ Cs w S t y r.toList
 | [], [], [], x, cells, K, _, _, he, hc => ⟨x, cells, by unfold bld at he; exact he, rfl, hc⟩
 | i :: ix, a :: al, v :: vs, x, cells, K, hl, hA, he, hc => by
  unfold bld at he
  split at he
  ·rename_i q hq
   obtain ⟨y, h1, h2⟩ := shd_ok h (hA 0 a v rfl rfl) he
   have hcv := Vs_cells h2
   obtain ⟨_, z, z1, z2⟩ := Cs_st h1 hc hcv hq
   have hvl : v.cells.size = q.2.sz := by rw [← Array.length_toList]; exact Cs_len hcv
   have hoff := Ty.off_le hq
   have hcl : cells.size = t.sz := by rw [← Array.length_toList]; exact Cs_len hc
   have hf := fold_set' q.1 v.cells cells (by omega)
   rw [← hvl, ← hf] at z2
   obtain ⟨y', r, r1, r2, r3⟩ := fill_bld h hpl (ix := ix) (al := al) (vs := vs) (by simpa using hl) (fun j x v hx hv => hA (j + 1) x v hx hv) z1 z2
   refine ⟨y', r, r1, ?_, r3⟩
   rw [List.zip_cons_cons]
   simp only [Instr.fill, hpl i q hq, hvl, ne_eq, not_true_eq_false, decide_false, Bool.false_or, show ¬ (q.1 + q.2.sz > cells.size) by omega, Bool.false_eq_true, if_false]
   exact r2
  ·exact he.elim
 | [], _ :: _, _, _, _, _, _, _, he, _ => by unfold bld at he; exact he.elim
 | _ :: _, [], _, _, _, _, _, _, he, _ => by unfold bld at he; exact he.elim
 | _, [], _ :: _, _, _, _, hl, _, _, _ => by simp at hl
 | _, _ :: _, [], _, _, _, hl, _, _, _ => by simp at hl
theorem aBld_ok (hTE : ∀ e t, TE e = some t → TyOk P t e) (h : RelC n0 w0 S0 N Fk f a w S V) {T : TypeId} {al : List Arg} {ix : List Nat} {vs : List Value} {parts : Array (Nat × Value)}
  (hp : parts.toList = ix.zip vs) (hl : al.length = vs.length) (hA : ∀ (j : Nat) (x : Arg) (v : Value), al[j]? = some x → vs[j]? = some v → ArgOk Fk f w S V x v) (he : aBld TE T ix al K) :
  Out n0 w0 S0 N Fk f a S key K ((Instr.build T parts).run P w) := by
 unfold aBld at he
 split at he
 ·rename_i t1 t2 hte
  have hT := hTE _ _ hte
  obtain ⟨i, z, i1, i2, i3, i4, i5⟩ := hT.info.ex
  have hzok := hT.zok rfl
  unfold TyOk at hT
  obtain ⟨fs, hu, _, hfs⟩ := hT
  have hpl : ∀ i q, (Ty.pr t1 t2).off [i] = some q → (fs.map fun f => (f.offset, P.cellsOf f.type))[i]? = some (q.1, q.2.sz) := fun i q e => by
   obtain ⟨fd, r1, r2, r3, _⟩ := FdOk_get hfs e
   rw [Array.getElem?_map, show fs[i]? = some fd by simpa using r1]
   simp [r2, cellsOf_ty r3]
  obtain ⟨y, r, r1, r2, r3⟩ := fill_bld h hpl (cells := z.cells) hl hA he (by rw [i3]; exact Cs_zero _ hzok)
  have hm : (fs.mapM fun f => (do pure (f.offset, ← sizeOf f.type) : Sem (Nat × Nat))).run P w = .ok (fs.map fun f => (f.offset, P.cellsOf f.type)) w := by
   rw [Array.mapM_eq_mapM_toList]
   simp only [Sem.run_map, run_mapM fs.toList (FdOk_all hfs), Result.andThen_ok]
   exact congrArg (Result.ok · w) (Array.ext' (by simp))
  have : (Instr.build T parts).run P w = .ok (.agg r) w := by
   simp only [Instr.build, zeroValue, typeInfo, Sem.run_bind, run_program, Result.andThen_ok, i1, i2, Sem.run_pure, run_underlying hu, hm]
   rw [hp]
   simp only [r2, Sem.run_pure]
  rw [this]
  exact Out.ro h r1 ⟨r.toList, r3, rfl⟩
 ·exact he.elim
def Ty.dsc : Ty → TypeDesc
 | .int k => .int k
 | .str => .string
 | _ => .invalid
theorem dsc_ok {k : Ty} {e : TypeId} (hk : k.isK = true) (h : TyOk P k e) : P.underlying e = some k.dsc := by
 cases k <;> first | (cases hk; done) | (unfold TyOk at h; exact h.1)
theorem same_ok {k : Ty} (hk : k.isK = true) {y z : k.den} {vy vz : Value} (hy : Vs w S k y vy) (hz : Vs w S k z vz) : Instr.sameNow k.dsc vy vz = some (keq k y z) ∧ (keq k y z = true → Instr.sameBits 10000 vz vy = true) := by
 cases k <;> try (cases hk; done)
 ·rw [Vs_int.1 hy, Vs_int.1 hz]
  refine ⟨by simp [Instr.sameNow, Ty.dsc, keq], fun h => ?_⟩
  have h : y = z := by simpa [keq] using h
  simp [Instr.sameBits, h]
 ·rw [Vs_str.1 hy, Vs_str.1 hz]
  refine ⟨by simp [Instr.sameNow, Ty.dsc, keq], fun h => ?_⟩
  have h : ((y : ByteArray) == z) = true := h
  have h2 : y = z := by
   rcases y with ⟨y⟩
   rcases z with ⟨z⟩
   have h : ByteArray.beq ⟨y⟩ ⟨z⟩ = true := h
   unfold ByteArray.beq at h
   simp at h
   rw [h]
  subst h2
  unfold Instr.sameBits
  exact h
theorem get_ok {k t : Ty} (hk : k.isK = true) {y : k.den} {vy : Value} (hy : Vs w S k y vy) : ∀ {xs : List (k.den × t.den)} {es : List MapEntry} (i : Nat), Mp w S k t xs es →
  (mget k y xs = none ∧ Instr.findNow k.dsc vy es i = some none) ∨ ∃ x j v, mget k y xs = some x ∧ Instr.findNow k.dsc vy es i = some (some (j, v)) ∧ Vs w S t x v
 | [], es, i, h => by rw [show es = [] from h]; exact .inl ⟨rfl, rfl⟩
 | x :: xs, es, i, ⟨e, es', h1, h2, h3, h4⟩ => by
  subst h1
  obtain ⟨s1, _⟩ := same_ok hk hy h2
  unfold mget Instr.findNow
  rw [s1]
  rcases hq : keq k y x.1 with _ | _
  ·simp only [Bool.false_eq_true, if_false]
   exact get_ok hk hy (i + 1) h4
  ·simp only [if_true]
   exact .inr ⟨_, _, _, rfl, rfl, h3⟩
theorem set_ok {k t : Ty} (hk : k.isK = true) {y : k.den} {x : t.den} {vy vx : Value} (hy : Vs w S k y vy) (hv : Vs w S t x vx) : ∀ {xs : List (k.den × t.den)} {es : List MapEntry} (i : Nat), Mp w S k t xs es →
  (Instr.findNow k.dsc vy es i = some none ∧ ∀ b, Mp w S k t (mset k y x xs) (es ++ [{ key := vy, val := vx, born := b }])) ∨
  ∃ j v e, Instr.findNow k.dsc vy es i = some (some (i + j, v)) ∧ es[j]? = some e ∧ Instr.sameBits 10000 e.key vy = true ∧ Mp w S k t (mset k y x xs) (es.modify j fun e => { e with key := vy, val := vx })
 | [], es, i, h => by rw [show es = [] from h]; exact .inl ⟨rfl, fun b => ⟨_, _, rfl, hy, hv, rfl⟩⟩
 | z :: xs, es, i, ⟨e, es', h1, h2, h3, h4⟩ => by
  subst h1
  obtain ⟨s1, s2⟩ := same_ok hk hy h2
  unfold mset Instr.findNow
  rw [s1]
  rcases hq : keq k y z.1 with _ | _
  ·simp only [Bool.false_eq_true, if_false]
   rcases set_ok hk hy hv (i + 1) h4 with ⟨r1, r2⟩ | ⟨j, v, e', r1, r2, r3, r4⟩
   ·exact .inl ⟨r1, fun b => ⟨_, _, rfl, h2, h3, r2 b⟩⟩
   ·refine .inr ⟨j + 1, v, e', by rw [r1]; congr 3; omega, r2, r3, ?_⟩
    exact ⟨e, es'.modify j _, rfl, h2, h3, r4⟩
  ·simp only [if_true]
   refine .inr ⟨0, _, e, by rw [Nat.add_zero], rfl, s2 hq, ?_⟩
   exact ⟨_, es', rfl, hy, hv, h4⟩
theorem run_checkKey {k : Ty} {e : TypeId} (hk : k.isK = true) (hT : TyOk P k e) {y : k.den} {vy : Value} (hy : Vs w S k y vy) (b : Bool) : (Instr.checkKey b 10000 e vy).run P w = .ok () w := by
 have hu := dsc_ok hk hT
 cases k <;> try (cases hk; done)
 ·rw [Vs_int.1 hy, show (10000 : Nat) = 9999 + 1 from rfl, Instr.checkKey]; simp only [Sem.run_bind, run_underlying hu, Result.andThen_ok, Ty.dsc]; rfl
 ·rw [Vs_str.1 hy, show (10000 : Nat) = 9999 + 1 from rfl, Instr.checkKey]; simp only [Sem.run_bind, run_underlying hu, Result.andThen_ok, Ty.dsc]; rfl
theorem run_zero {t : Ty} {e : TypeId} (hT : TyOk P t e) (hr : t.row = true) : ∃ z, (zeroValue e).run P w = .ok z w ∧ Vs w S t t.zv z := by
 have hi := hT.info
 obtain ⟨i, z, i1, i2, i3, i4, i5⟩ := hi.ex
 have hz := hi.mkz i z i1 i2
 refine ⟨z, by simp [zeroValue, typeInfo, i1, i2], t.zc, Cs_zero t (hT.zok hr), hz⟩
theorem aMap_ok (hTE : ∀ e t, TE e = some t → TyOk P t e) (h : RelC n0 w0 S0 N Fk f a w S V) (hk : Fk key) {T : TypeId} {x : Option Operand} (he : aMap TE key T (x.toList.map f.res) K) :
  Out n0 w0 S0 N Fk f a S key K ((Instr.makeMap T (x.map a.eval)).run P w) := by
 have fin : ∀ {k t : Ty}, TE T = some (.mp k t) → K (.own key) [⟨0, .mp k t, [], true⟩] → Out n0 w0 S0 N Fk f a S key K (.ok (.map (some w.heap.size)) (w.alloc (.map #[] 0))) := fun {k t} hte hK => by
  refine Out.own (o := ⟨0, .mp k t, [], true⟩) h (below_new w _) hk (vs := .map (some w.heap.size)) rfl ?_ (fun i hi => by cases hi) hK (fun n' t' e' => by rw [upd_self]) (fun j hj => by simpa [PV.keys] using hj)
  rw [OR_mp]
  refine ⟨_, #[], 0, rfl, by show (w.heap.push _)[w.heap.size]? = _; simp, rfl, by simp, by simp⟩
 cases x with
 | none =>
  have he : aMap TE key T [] K := he
  simp only [aMap] at he
  split at he
  ·rename_i k t hte
   exact fin hte he
  ·exact he.elim
 | some x =>
  have key : ∀ y, ArgOk Fk f w S V y (a.eval x) → aMap TE key T [y] K → Out n0 w0 S0 N Fk f a S key K ((Instr.makeMap T (some (a.eval x))).run P w) := by
   clear he
   intro y hx he
   unfold aMap at he
   split at he
   ·rename_i heq; cases heq
   ·rename_i kk n o heq
    simp only [List.cons.injEq, and_true] at heq
    subst heq
    split at he
    ·rename_i k t hte
     have hT := hTE _ _ hte
     unfold TyOk at hT
     obtain ⟨e1, e2, hu, _⟩ := hT
     have : (Instr.makeMap T (some (a.eval x))).run P w = .ok (.map (some w.heap.size)) (w.alloc (.map #[] 0)) := by
      rw [hx.int]; simp [Instr.makeMap, run_underlying hu, asInt, asIntOf]
     rw [this]
     exact fin hte he
    ·exact he.elim
   ·exact he.elim
  exact key _ (h.arg x) he
theorem aLook_ok (hTE : ∀ e t, TE e = some t → TyOk P t e) (h : RelC n0 w0 S0 N Fk f a w S V) {T : TypeId} {ok : Bool} {x y : Arg} {vx vy : Value} (hx : ArgOk Fk f w S V x vx) (hy : ArgOk Fk f w S V y vy) (he : aLook TE T ok [x, y] K) :
  Out n0 w0 S0 N Fk f a S key K ((Instr.lookup T vx vy ok).run P w) := by
 unfold aLook at he
 split at he
 ·rename_i key' e k t xs m b heq
  simp only [List.cons.injEq, and_true] at heq
  obtain ⟨rfl, rfl⟩ := heq
  obtain ⟨h1, h2⟩ := he
  have hT := hTE _ _ h1
  unfold TyOk at hT
  obtain ⟨e1, e2, hu, _, hk1, ht1, hkk, hsz, hr⟩ := hT
  obtain ⟨ho, hs⟩ := hx.sh rfl
  obtain ⟨r, es, c, q1, q2, q3, q4⟩ := (OR_x rfl (h.ob _ _ ho)).2
  rw [hx.pv _ _ hs, q1]
  obtain ⟨z, z1, z2⟩ := shd_ok h hy h2
  have hg : (getObj r).run P w = .ok (.map es c) w := by simp [getObj, Sem.run, q2]
  have hd := dsc_ok hkk hk1
  obtain ⟨zv, r1, r2⟩ := run_zero (w := w) (S := S) ht1 hr
  rcases get_ok hkk z2 0 q3 with ⟨g1, g2⟩ | ⟨x', j, v, g1, g2, g3⟩
  ·have hl : (Instr.lookup T (.map (some r)) vy ok).run P w = .ok (if ok then .tuple #[zv, .bool false] else zv) w := by
    simp [Instr.lookup, run_underlying hu, hg, run_checkKey hkk hk1 z2, Instr.findKey, run_underlying hd, g2, r1]
   rw [hl]
   rw [g1] at z1
   cases ok
   ·exact Out.ro h (by simpa using z1) r2
   ·exact Out.pure (v := .tuple #[zv, .bool false]) (p := .pair (.ro t t.zv) (.pair (.ro .bool false) .tnil)) h (by simpa using z1) ⟨[zv, .bool false], rfl, zv, _, rfl, r2, _, _, rfl, Vs_bool.2 rfl, rfl⟩ (fun j hj => by simp [PV.keys] at hj)
  ·have hl : (Instr.lookup T (.map (some r)) vy ok).run P w = .ok (if ok then .tuple #[v, .bool true] else v) w := by
    simp [Instr.lookup, run_underlying hu, hg, run_checkKey hkk hk1 z2, Instr.findKey, run_underlying hd, g2]
   rw [hl]
   rw [g1] at z1
   cases ok
   ·exact Out.ro h (by simpa using z1) g3
   ·exact Out.pure (v := .tuple #[v, .bool true]) (p := .pair (.ro t x') (.pair (.ro .bool true) .tnil)) h (by simpa using z1) ⟨[v, .bool true], rfl, v, _, rfl, g3, _, _, rfl, Vs_bool.2 rfl, rfl⟩ (fun j hj => by simp [PV.keys] at hj)
 ·exact he.elim
theorem tvs_ok (h : RelC n0 w0 S0 N Fk f a w S V) : ∀ {xs : List Operand} {K : List TV → Prop}, tvs (xs.map f.res) K → ∃ l, K l ∧ l.length = xs.length ∧ ∀ n, Vl w S (tup (l.take n)).t (tup (l.take n)).x ((xs.take n).map a.eval) ∧ Vl w S (tup (l.drop n)).t (tup (l.drop n)).x ((xs.drop n).map a.eval)
 | [], K, he => ⟨[], he, rfl, fun n => by cases n <;> exact ⟨⟨[], rfl, rfl⟩, ⟨[], rfl, rfl⟩⟩⟩
 | x :: xs, K, he => by
  obtain ⟨y, h1, h2⟩ := tvA_ok h (h.arg x) he
  obtain ⟨l, h3, h4, h5⟩ := tvs_ok h (xs := xs) h1
  have cons : ∀ {l : List TV} {vs : List Value}, Vl w S (tup l).t (tup l).x vs → Vl w S (tup (y :: l)).t (tup (y :: l)).x (a.eval x :: vs) := fun {l vs} ⟨cs, c1, c2⟩ => by
   obtain ⟨d, d1, d2⟩ := h2
   refine ⟨d ++ cs, ⟨d, cs, rfl, d1, c1⟩, ?_⟩
   show _ = y.t.mk ((d ++ cs).take y.t.sz) :: (tup l).t.vals ((d ++ cs).drop y.t.sz)
   rw [← Cs_len d1, List.take_left, List.drop_left, ← d2, ← c2]
  refine ⟨y :: l, h3, by simp [h4], fun n => ?_⟩
  cases n with
  | zero => exact ⟨⟨[], rfl, rfl⟩, cons (h5 0).2⟩
  | succ n => exact ⟨cons (h5 n).1, (h5 n).2⟩
theorem aFn_ok (h : RelC n0 w0 S0 N Fk f a w S V) {fn : Fn} {fs cs : List Operand} (he : aFn fn fs.length ((fs ++ cs).map f.res) K) :
  Out n0 w0 S0 N Fk f a S key K (.ok (.func fn (fs.map a.eval).toArray (cs.map a.eval).toArray) w) := by
 unfold aFn at he
 obtain ⟨l, h1, h2, h3⟩ := tvs_ok h he
 obtain ⟨h4, h5⟩ := h3 fs.length
 rw [List.take_left] at h4
 rw [List.drop_left] at h5
 exact Out.ro h h1 (Vs_fn.2 ⟨_, _, rfl, h4, h5⟩)
theorem aIfc_ok (hTE : ∀ e t, TE e = some t → TyOk P t e) (h : RelC n0 w0 S0 N Fk f a w S V) {T : TypeId} {x : Arg} {vx : Value} (hx : ArgOk Fk f w S V x vx) (he : aIfc TE T [x] K) :
  Out n0 w0 S0 N Fk f a S key K ((Instr.makeInterface T vx).run P w) := by
 unfold aIfc at he
 simp only at he
 split at he
 ·rename_i t hte
  have hT := hTE _ _ hte
  obtain ⟨y, h1, h2⟩ := shd_ok h hx he
  have : (Instr.makeInterface T vx).run P w = .ok (.iface T vx) w := by
   have hu : ∃ d, P.underlying T = some d ∧ ∀ m, d ≠ .interface m := by
    cases t <;> unfold TyOk at hT <;> try exact hT.elim
    ·exact ⟨_, hT.1, fun _ => TypeDesc.noConfusion⟩
    ·exact ⟨_, hT.1, fun _ => TypeDesc.noConfusion⟩
    ·exact ⟨_, hT.1, fun _ => TypeDesc.noConfusion⟩
    ·exact ⟨_, hT.1, fun _ => TypeDesc.noConfusion⟩
    ·obtain ⟨fs, hu, _⟩ := hT; exact ⟨_, hu, fun _ => TypeDesc.noConfusion⟩
    ·obtain ⟨fs, hu, _⟩ := hT; exact ⟨_, hu, fun _ => TypeDesc.noConfusion⟩
    ·obtain ⟨e1, e2, hu, _⟩ := hT; exact ⟨_, hu, fun _ => TypeDesc.noConfusion⟩
    ·obtain ⟨n, e2, hu, _⟩ := hT; exact ⟨_, hu, fun _ => TypeDesc.noConfusion⟩
   obtain ⟨d, hu, hd⟩ := hu
   simp only [Instr.makeInterface, Sem.run_bind, run_underlying hu, Result.andThen_ok]
   cases d <;> first | rfl | exact absurd rfl (hd _)
  rw [this]
  exact Out.ro h h1 (Vs_ifc.2 ⟨_, rfl, h2⟩)
 ·exact he.elim
theorem ev_ok (hTE : ∀ e t, TE e = some t → TyOk P t e) (h : RelC n0 w0 S0 N Fk f a w S V) (hk : Fk key) (o : Oper) (he : ev TE key o.op (o.op.operands.toList.map f.res) K) :
  ∃ v w', (execOp a.eval o).run P w = .ok (.value v) w' ∧ Out n0 w0 S0 N Fk f a S key K (.ok v w') := by
 have fin : ∀ (s : Sem Value) (e : execOp a.eval o = (do pure (.value (← s)))), Out n0 w0 S0 N Fk f a S key K (s.run P w) → ∃ v w', (execOp a.eval o).run P w = .ok (.value v) w' ∧ Out n0 w0 S0 N Fk f a S key K (.ok v w') := by
  intro s e ho
  have ho' := ho
  obtain ⟨p, obs, v, w', S', V', _, e2, _⟩ := ho'
  rw [e2] at ho
  exact ⟨v, w', by rw [e]; simp only [Sem.run_bind, e2, Result.andThen_ok, Sem.run_pure], ho⟩
 have hA := fun x => h.arg (x := x)
 obtain ⟨dst, op, type, pos, after, guard⟩ := o
 cases op <;> simp only [ev] at he <;> try exact he.elim
 case move x => exact ⟨_, _, rfl, aMove_ok h (hA x) (by simpa [Op.operands] using he)⟩
 case assign x => exact ⟨_, _, rfl, aMove_ok h (hA x) (by simpa [Op.operands] using he)⟩
 case pick c x y =>
  obtain ⟨b, h1, h2⟩ := aPick_ok (key := key) h (hA c) (hA x) (hA y) (by simpa [Op.operands] using he)
  refine ⟨_, _, ?_, h2⟩
  simp [execOp, h1, asBool]
 case alloc e => exact fin _ rfl (aAlloc_ok hTE h hk (by simpa [Op.operands] using he))
 case box e x => exact fin _ rfl (aBox_ok hTE h hk (hA x) (by simpa [Op.operands] using he))
 case build T ps =>
  refine fin _ rfl (aBld_ok hTE h (ix := ps.toList.map (·.1)) (vs := ps.toList.map fun q => a.eval q.2) ?_ ?_ ?_ (by simpa [Op.operands] using he))
  ·rw [Array.toList_map, List.zip_map']
  ·simp [Op.operands]
  ·intro j x v hx hv
   simp [Op.operands] at hx hv
   obtain ⟨q, b, hx, rfl⟩ := hx
   obtain ⟨q', b', hv, rfl⟩ := hv
   rw [hx] at hv
   injection hv with hv; injection hv with _ hv
   rw [← hv]
   exact hA _
 case buildSlice T n ps =>
  refine fin _ rfl (aBldS_ok hTE h hk (ix := ps.toList.map (·.1)) (vs := ps.toList.map fun q => a.eval q.2) ?_ ?_ ?_ (by simpa [Op.operands] using he))
  ·rw [Array.toList_map, List.zip_map']
  ·simp [Op.operands]
  ·intro j x v hx hv
   simp [Op.operands] at hx hv
   obtain ⟨q, b, hx, rfl⟩ := hx
   obtain ⟨q', b', hv, rfl⟩ := hv
   rw [hx] at hv
   injection hv with hv; injection hv with _ hv
   rw [← hv]
   exact hA _
 case load t x => exact fin _ rfl (aLoad_ok hTE h (hA x) (by simpa [Op.operands] using he))
 case nilCheck x =>
  obtain ⟨h1, h2⟩ := aNilC_ok (key := key) h (hA x) (by simpa [Op.operands] using he)
  rcases h1 with ⟨ad, h1⟩ | ⟨g, l, m, h1⟩
  ·exact ⟨_, _, by simp [execOp, h1], h1 ▸ h2⟩
  ·exact ⟨_, _, by simp [execOp, h1], h1 ▸ h2⟩
 case makeMap T x => exact fin _ rfl (aMap_ok hTE h hk (x := x) (by cases x <;> simpa [Op.operands] using he))
 case lookup T x y ok => exact fin _ rfl (aLook_ok hTE h (hA x) (hA y) (by simpa [Op.operands] using he))
 case makeInterface T x => exact fin _ rfl (aIfc_ok hTE h (hA x) (by simpa [Op.operands] using he))
 case makeFunc fn fs cs =>
  obtain ⟨fs⟩ := fs
  obtain ⟨cs⟩ := cs
  have := aFn_ok (key := key) h (fn := fn) (fs := fs) (cs := cs) (by simpa [Op.operands] using he)
  exact ⟨.func fn (fs.map a.eval).toArray (cs.map a.eval).toArray, w, by simp [execOp, Instr.makeFunc], this⟩
 case binOp op xt x y yt => exact fin _ rfl (aBin_ok h (hA x) (hA y) (by simpa [Op.operands] using he))
 case unOp op xt x => exact fin _ rfl (aUn_ok h (hA x) (by simpa [Op.operands] using he))
 case convert s d x => exact fin _ rfl (aConv_ok hTE h (hA x) (by simpa [Op.operands] using he))
 case makeSlice t x y => exact fin _ rfl (aMake_ok hTE h hk (hA x) (hA y) (by simpa [Op.operands] using he))
 case slice t x lo hi mx =>
  cases mx with
  | some m =>
   cases hi with
   | none => exact he.elim
   | some hh =>
    have he' : aSli3 TE t (lo.map a.eval).isSome (f.res x :: (lo.toList ++ [hh, m]).map f.res) K := by
     cases lo <;> simpa [Op.operands, ev] using he
    refine fin _ rfl (aSli3_ok hTE h (lo := lo.map a.eval) (vh := a.eval hh) (vm := a.eval m) (hA x) ?_ he')
    cases lo <;> simp <;> first | exact ⟨hA _, hA _⟩ | exact ⟨hA _, hA _, hA _⟩
  | none =>
   have he' : aSli TE t (lo.map a.eval).isSome (hi.map a.eval).isSome (f.res x :: (lo.toList ++ hi.toList).map f.res) K := by
    cases lo <;> cases hi <;> simpa [Op.operands, ev] using he
   refine fin _ rfl (aSli_ok hTE h (lo := lo.map a.eval) (hi := hi.map a.eval) (hA x) ?_ he')
   cases lo <;> cases hi <;> simp <;> first | exact hA _ | exact ⟨hA _, hA _⟩
 case fieldAddr t x n => exact fin _ rfl (aFldA_ok hTE h (hA x) (by simpa [Op.operands] using he))
 case field t x n => exact fin _ rfl (aFld_ok hTE h (hA x) (by simpa [Op.operands] using he))
 case indexAddr t x y => exact fin _ rfl (aIdxA_ok hTE h (hA x) (hA y) (by simpa [Op.operands] using he))
 case index t x y => exact fin _ rfl (aIdx_ok hTE h (hA x) (hA y) (by simpa [Op.operands] using he))
 case extract x i => exact fin _ rfl (aExt_ok h (hA x) (by simpa [Op.operands] using he))
 case call c =>
  obtain ⟨cl, args, ts⟩ := c
  obtain ⟨args⟩ := args
  cases cl with
  | value x => exact he.elim
  | invoke x m => exact he.elim
  | builtin b =>
   have hop : ∀ al : Array Operand, (Op.operands (.call ⟨.builtin b, al, ts⟩)).toList = al.toList := fun al => by simp [Op.operands, Call.operands]
   rw [hop] at he
   cases b <;> simp only [ev] at he <;> try exact he.elim
   case len =>
    obtain ⟨h1, he⟩ := he
    match args, he with
    | [x], he => exact fin (Builtin.len_ ts type #[a.eval x]) (by simp [execOp, resolve, invoke, builtin]) (aLen_ok hTE h rfl h1 (hA x) he)
    | [], he => exact he.elim
    | _ :: _ :: _, he => simp [aLen] at he
   case max =>
    match args, he with
    | [x, y], he => exact fin (Builtin.max_ ts type #[a.eval x, a.eval y]) (by simp [execOp, resolve, invoke, builtin]) (aMax_ok h (hA x) (hA y) he)
    | [], he => exact he.elim
    | [x], he => simp [aMax] at he
    | _ :: _ :: _ :: _, he => simp [aMax] at he
   case min =>
    match args, he with
    | [x, y], he => exact fin (Builtin.min_ ts type #[a.eval x, a.eval y]) (by simp [execOp, resolve, invoke, builtin]) (aMin_ok h (hA x) (hA y) he)
    | [], he => exact he.elim
    | [x], he => simp [aMin] at he
    | _ :: _ :: _ :: _, he => simp [aMin] at he
end
end Go.TT
end
section
namespace Go.TT
open Go.RowKit
set_option linter.unusedVariables false
set_option linter.unusedSimpArgs false
def lkp {α : Type} (d : α) : List (Nat × α) → Nat → α
 | [], _ => d
 | (k, x) :: l, i => if i = k then x else lkp d l i
inductive HM where
 | keep
 | row (e : TypeId) (t : Ty)
 | own (e : TypeId) (t : Ty)
 | box
 /-- a variable that leads to a row, or a map, of its own -/
 | ibx
 /-- the rows in rows stay -/
 | heap
def FS.frz (f : FS) (k : Nat) : FS := match f.o k with
 | some o => f.set k o.froze
 | none => f
def FS.fzs (f : FS) : List (Nat × HM) → FS
 | [] => f
 | (k, .keep) :: h => (match f.g k with | .own j => f.frz j | .one _ j => f.frz j | _ => f).fzs h
 | (k, .row _ _) :: h => (match f.g k with | .own j => f.frz j | .one _ j => f.frz j | _ => f).fzs h
 | _ :: h => f.fzs h
def roOf (f : FS) : PV → PV
 | .own j => match f.o j with
  | some o => if o.mu = false then .ro (.sl o.e o.t) o.xs else .bot
  | none => .bot
 | .ro t x => .ro t x
 | .cel t x => .cel t x
 | .nil => .nil
 | .tnil => .tnil
 | .one e j => match f.o j with
  | some o => if o.mu = false then .ro (.sl e (.sl o.e o.t)) [o.xs] else .bot
  | none => .bot
 | _ => .bot
def rowOf (e : TypeId) (t : Ty) : PV → PV
 | .nil => .ro (.sl e t) []
 | p => p
def hasHeap (h : List (Nat × HM)) : Bool := match h with
 | (_, .heap) :: _ => true
 | _ => false
abbrev CA := List (Nat × PV) × List (Nat × Option Ob) × List Nat
def okH (hp : Bool) : Ty → Bool
 | .id _ _ => hp
 | _ => true
def ibxOf : Option Ob → Option (TypeId × TypeId × Ty × Nat)
 | some ⟨e, .id e' t', [x], true⟩ => some (e, e', t', x)
 | _ => none
theorem ibxOf_eq {b : Option Ob} {e e' : TypeId} {t' : Ty} {x : Nat} (h : ibxOf b = some (e, e', t', x)) : b = some ⟨e, .id e' t', [x], true⟩ := by
 unfold ibxOf at h
 split at h
 ·injection h with h
  injection h with h1 h
  injection h with h2 h
  injection h with h3 h4
  subst h1 h2 h3 h4; rfl
 ·cases h
def odn : List (Nat × Option Ob) → Nat
 | [] => 0
 | x :: l => if x.1 % 2 = 1 then odn l + 1 else odn l
def cn1 (f : FS) (hp : Bool) (N : Nat) : Nat → HM → CA → CA
 | k, .keep, (g, o, od) => ((k, roOf f (f.g k)) :: g, o, od)
 | k, .row e t, (g, o, od) => ((k, rowOf e t (roOf f (f.g k))) :: g, o, od)
 | k, .own e t, (g, o, od) => if k < N ∧ (lkp none o (2 * k)).isNone = true then match f.g k with
  | .nil => if t.row = true then ((k, .own (2 * k)) :: g, (2 * k, some ⟨e, t, [], true⟩) :: o, od) else (g, o, od)
  | .own j => match f.o j with
   | some b => if (b.mu = true ∧ okH hp b.t = true) ∧ j % 2 = 0 ∧ od.contains j = false then ((k, .own (2 * k)) :: g, (2 * k, some b) :: o, j :: od) else (g, o, od)
   | none => (g, o, od)
  | _ => (g, o, od)
  else (g, o, od)
 | k, .box, (g, o, od) => if k < N ∧ (lkp none o (2 * k)).isNone = true then match f.g k with
  | .ptr j i fs => match f.o j with
   | some b => if (b.mu = true ∧ okH hp b.t = true) ∧ j % 2 = 0 ∧ od.contains j = false then ((k, .ptr (2 * k) i fs) :: g, (2 * k, some b) :: o, j :: od) else (g, o, od)
   | none => (g, o, od)
  | _ => (g, o, od)
  else (g, o, od)
 | k, .ibx, (g, o, od) => if hp = false ∧ k < N ∧ (lkp none o (2 * k)).isNone = true then match f.g k with
  | .ptr j i fs => match ibxOf (f.o j) with
   | some (e, e', t', x) => match f.o x with
    | some b => if (b.mu = true ∧ okH false b.t = true) ∧ j % 2 = 0 ∧ x % 2 = 1 ∧ od.contains j = false ∧ od.contains x = false then ((k, .ptr (2 * k) i fs) :: g, (2 * k, some ⟨e, .id e' t', [TT.od (odn o)], true⟩) :: (TT.od (odn o), some b) :: o, j :: x :: od) else (g, o, od)
    | none => (g, o, od)
   | none => (g, o, od)
  | _ => (g, o, od)
  else (g, o, od)
 | _, .heap, c => c
def cnl (f : FS) (hp : Bool) (N : Nat) : List (Nat × HM) → CA → CA
 | [], c => c
 | (k, m) :: h, c => cnl f hp N h (cn1 f hp N k m c)
def oddF (f : FS) (hp : Bool) (g : Nat → Option Ob) : Nat → Option Ob := match hp with
 | true => fun k => if k % 2 = 1 then f.o k else g k
 | false => g
def CA.fs (c : CA) (f : FS) (hp : Bool) : FS := ⟨lkp .bot c.1, oddF f hp (lkp none c.2.1), if hp = true then f.h else odn c.2.1⟩
def FS.canon (f : FS) (N : Nat) (h : List (Nat × HM)) : FS := (cnl (f.fzs h) (hasHeap h) N h ([], [], [])).fs (f.fzs h) (hasHeap h)
section
variable {n0 : Nat → Prop} {w0 : World} {S0 : Nat → Prop} {N : Nat} {Fk : Nat → Prop} {f : FS} {a : Act} {w w' : World} {S S' : Nat → Prop} {V V' : Nat → Value}
theorem RelC.know (h : RelC n0 w0 S0 N Fk f a w S V) {d : Nat} {p : PV} (hp : PVr w S V f.sh p (a.tmps.getD d undef)) (hk : ∀ k ∈ p.keys, ¬ Fr Fk f k) : RelC n0 w0 S0 N Fk (f.put (some d) p) a w S V := by
 refine ⟨h.bel, h.nle, h.df, h.sz, fun i => ?_, h.ob, h.ds, h.sp, h.ow, h.old, h.lt, h.fr, fun i k hk' => ?_, (fun k o e i hi => h.fi k o e i hi), h.fe⟩
 ·show PVr w S V f.sh (upd f.g d p i) _
  unfold upd
  split
  ·rename_i e; rw [e]; exact hp
  ·exact h.sl i
 ·have hk' : k ∈ (upd f.g d p i).keys := hk'
  unfold upd at hk'
  split at hk'
  ·exact hk k hk'
  ·exact h.fg i k hk'
theorem set_self {f : FS} {k : Nat} {o : Ob} (e : f.o k = some o) : f.set k o = f := by
 obtain ⟨g, o', h⟩ := f
 unfold FS.set
 congr 1
 funext i
 unfold upd
 split
 ·rename_i q; rw [q]; exact e.symm
 ·rfl
theorem RelC.frz' (h : RelC n0 w0 S0 N Fk f a w S V) (k : Nat) : ∃ S', RelC n0 w0 S0 N Fk (f.frz k) a w S' V ∧ ∀ b, S b → S' b := by
 unfold FS.frz
 split
 ·rename_i o e
  rcases hr : o.t.row with _ | _
  ·have : o.froze = o := by unfold Ob.froze; rw [hr]; rfl
   rw [this, set_self e]; exact ⟨S, h, fun _ h => h⟩
  ·rw [froze_row hr]; exact ⟨_, h.frz e hr, fun b hb => .inl hb⟩
 ·exact ⟨S, h, fun _ h => h⟩
theorem RelC.fzs : ∀ (l : List (Nat × HM)) {f : FS} {S : Nat → Prop}, RelC n0 w0 S0 N Fk f a w S V → ∃ S', RelC n0 w0 S0 N Fk (f.fzs l) a w S' V
 | [], _, S, h => ⟨S, h⟩
 | (k, .keep) :: l, f, S, h => by
  unfold FS.fzs
  split
  ·obtain ⟨S', h', _⟩ := h.frz' _; exact RelC.fzs l h'
  ·obtain ⟨S', h', _⟩ := h.frz' _; exact RelC.fzs l h'
  ·exact RelC.fzs l h
 | (k, .row _ _) :: l, f, S, h => by
  unfold FS.fzs
  split
  ·obtain ⟨S', h', _⟩ := h.frz' _; exact RelC.fzs l h'
  ·obtain ⟨S', h', _⟩ := h.frz' _; exact RelC.fzs l h'
  ·exact RelC.fzs l h
 | (k, .own _ _) :: l, f, S, h => by unfold FS.fzs; exact RelC.fzs l h
 | (k, .box) :: l, f, S, h => by unfold FS.fzs; exact RelC.fzs l h
 | (k, .ibx) :: l, f, S, h => by unfold FS.fzs; exact RelC.fzs l h
 | (k, .heap) :: l, f, S, h => by unfold FS.fzs; exact RelC.fzs l h
theorem OR_nil {e : TypeId} {t : Ty} (hr : t.row = true) : OR w S V ⟨e, t, [], true⟩ (.slice none 0 0) := OR_new (cs := []) hr rfl (World.ownsRow_nil w 0 e t.sz) rfl
structure Cst (n0 : Nat → Prop) (w0 : World) (S0 : Nat → Prop) (N : Nat) (f : FS) (hp : Bool) (a : Act) (w : World) (S : Nat → Prop) (V : Nat → Value) (c : CA) (V' : Nat → Value) : Prop where
 rel : RelC n0 w0 S0 N (fun k => k % 2 = 0 ∧ lkp none c.2.1 k = none) (c.fs f hp) a w S V'
 old : ∀ k b, lkp none c.2.1 k = some b → blk (V' k) = none ∨ ∃ j, (hp = true → j % 2 = 0) ∧ c.2.2.contains j = true ∧ V' k = V j ∧ ∃ b', f.o j = some b' ∧ b'.mu = true
 lt : ∀ k b, lkp none c.2.1 k = some b → k % 2 = 0 → k < 2 * N
 odd : hp = true → ∀ k, k % 2 = 1 → V' k = V k
 ev : hp = true → ∀ k b, lkp none c.2.1 k = some b → k % 2 = 0
theorem Cst.put {hp : Bool} {c : CA} (h : Cst n0 w0 S0 N f hp a w S V c V') {k : Nat} {p : PV} (hpv : PVr w S V' (c.fs f hp).sh p (a.tmps.getD k undef)) (hk : p.keys = []) : Cst n0 w0 S0 N f hp a w S V ((k, p) :: c.1, c.2.1, c.2.2) V' :=
 ⟨h.rel.know hpv (fun j hj => by rw [hk] at hj; cases hj), h.old, h.lt, h.odd, h.ev⟩
theorem roOf_ok (hf : RelC n0 w0 S0 N Fk f a w S V) {sh : Sh} (d : Nat) : PVr w S V' sh (roOf f (f.g d)) (a.tmps.getD d undef) ∧ (roOf f (f.g d)).keys = [] := by
 have h := hf.sl d
 have harg : ArgOk Fk f w S V (f.g d, (f.g d).key.bind f.o) (a.tmps.getD d undef) := hf.arg (.tmp d)
 generalize f.g d = p at *
 cases p <;> simp only [roOf] <;> try exact ⟨trivial, rfl⟩
 ·exact ⟨h, rfl⟩
 ·exact ⟨h, rfl⟩
 ·rename_i j
  split
  ·rename_i o e
   split
   ·rename_i hm
    have h1 := fz_row (hf.ob _ _ e) hm
    rw [h o.ln o.t (by simp [FS.sh, e])]
    exact ⟨Vs_sl.2 h1.2, rfl⟩
   ·exact ⟨trivial, rfl⟩
  ·exact ⟨trivial, rfl⟩
 ·exact ⟨h, rfl⟩
 ·rename_i e j
  split
  ·rename_i o eo
   split
   ·rename_i hm
    have harg : ArgOk Fk f w S V (.one e j, f.o j) (a.tmps.getD d undef) := harg
    rw [eo] at harg
    obtain ⟨tv, rfl, h4⟩ := tvA_ok hf harg (K := fun tv => tv = ⟨.sl e (.sl o.e o.t), [o.xs]⟩) ⟨hm, rfl⟩
    exact ⟨h4, rfl⟩
   ·exact ⟨trivial, rfl⟩
  ·exact ⟨trivial, rfl⟩
 ·exact ⟨h, rfl⟩
theorem rowOf_ok {sh : Sh} {e : TypeId} {t : Ty} {p : PV} {v : Value} (h : PVr w S V' sh p v) (hk : p.keys = []) : PVr w S V' sh (rowOf e t p) v ∧ (rowOf e t p).keys = [] := by
 cases p <;> simp only [rowOf] <;> try exact ⟨h, hk⟩
 exact ⟨Vs_sl.2 ⟨none, 0, [], by rw [show v = .slice none 0 0 from h]; rfl, Nat.le_refl _, rfl, .inl rfl⟩, rfl⟩
theorem oddF_even {hp : Bool} {g : Nat → Option Ob} {k : Nat} (h : k % 2 = 0) : oddF f hp g k = g k := by
 unfold oddF; cases hp
 ·rfl
 ·show (if k % 2 = 1 then f.o k else g k) = g k
  rw [if_neg (by omega)]
theorem oddF_odd {hp : Bool} {g : Nat → Option Ob} {k : Nat} {b : Ob} (h : k % 2 = 1) (hg : g k = none) (e : oddF f hp g k = some b) : hp = true ∧ f.o k = some b := by
 cases hp
 ·have e : g k = some b := e
  rw [hg] at e; cases e
 ·have e : (if k % 2 = 1 then f.o k else g k) = some b := e
  rw [if_pos h] at e; exact ⟨rfl, e⟩
theorem fs_new {hp : Bool} {c : CA} {k : Nat} {b : Ob} {p : PV} {s : Nat} (hk : k % 2 = 0) {od : List Nat} : CA.fs ((s, p) :: c.1, (k, some b) :: c.2.1, od) f hp = ((c.fs f hp).new k b).put (some s) p := by
 have ho : odn ((k, some b) :: c.2.1) = odn c.2.1 := by
  show (if k % 2 = 1 then odn c.2.1 + 1 else odn c.2.1) = odn c.2.1
  rw [if_neg (by omega)]
 unfold CA.fs FS.new FS.put
 simp only [ho]
 congr 1
 funext j
 cases hp
 ·rfl
 ·show (if j % 2 = 1 then f.o j else if j = k then some b else lkp none c.2.1 j) = if j = k then some b else if j % 2 = 1 then f.o j else lkp none c.2.1 j
  by_cases h1 : j = k
  ·rw [if_pos h1, if_pos h1, if_neg (by omega)]
  ·rw [if_neg h1, if_neg h1]
theorem Cst.dist {hp : Bool} {c : CA} (hf : RelC n0 w0 S0 N Fk f a w S V) (h : Cst n0 w0 S0 N f hp a w S V c V') {j : Nat} {b0 : Ob} (h0 : hp = true → j % 2 = 0) (h2 : c.2.2.contains j = false) (h4 : f.o j = some b0) (h5 : b0.mu = true) (g : Nat) (hg : blk (V j) = some g) :
  n0 g ∧ ¬ S g ∧ ∀ k' o', (c.fs f hp).o k' = some o' → o'.mu = true → blk (V' k') ≠ some g := by
 refine ⟨(hf.ow j b0 h4 h5 g hg).1, hf.sp j b0 h4 h5 g hg, fun k' o' e hm' q => ?_⟩
 rcases e' : lkp none c.2.1 k' with _ | b'
 ·have e : oddF f hp (lkp none c.2.1) k' = some o' := e
  by_cases hk' : k' % 2 = 0
  ·rw [oddF_even hk', e'] at e; cases e
  ·obtain ⟨e1, e⟩ := oddF_odd (by omega) e' e
   rw [h.odd e1 k' (by omega)] at q
   exact hf.ds j k' b0 o' (fun e => by have := h0 e1; omega) h4 e h5 hm' g hg q
 ·rcases h.old k' b' e' with q1 | ⟨j', q0, q1, q2, b2, q3, q4⟩
  ·rw [q1] at q; cases q
  ·rw [q2] at q
   have hne : j ≠ j' := fun e => by rw [e, q1] at h2; cases h2
   exact hf.ds j j' b0 b2 hne h4 q3 h5 q4 g hg q
theorem Cst.row' {hp : Bool} {c : CA} (hf : RelC n0 w0 S0 N Fk f a w S V) (h : Cst n0 w0 S0 N f hp a w S V c V') {s k : Nat} (hke : k % 2 = 0) (hk : k < 2 * N) (hn : lkp none c.2.1 k = none) {b : Ob} {v : Value} (hbV : OR w S V' b v) (hbi' : ∀ i ∈ idsOf b, ∃ j, j < (c.fs f hp).h ∧ i = TT.od j) {od : List Nat}
  (ho : blk v = none ∧ od = c.2.2 ∨ ∃ j b0, (hp = true → j % 2 = 0) ∧ c.2.2.contains j = false ∧ v = V j ∧ f.o j = some b0 ∧ b0.mu = true ∧ od = j :: c.2.2) {p : PV}
  (hp' : PVr w S (upd V' k v) ((c.fs f hp).new k b).sh p (a.tmps.getD s undef)) (hpk : ∀ j ∈ p.keys, j = k) : Cst n0 w0 S0 N f hp a w S V ((s, p) :: c.1, (k, some b) :: c.2.1, od) (upd V' k v) := by
 have hodd : ∀ i, TT.od i ≠ k := fun i e => by unfold TT.od at e; omega
 have h1 := h.rel.new (k := k) (o := b) (v := v) ⟨hke, hn⟩ hbV hbi' (fun hm g hg => by
  rcases ho with ⟨ho, _⟩ | ⟨j, b0, h0, h2, h3, h4, h5, _⟩
  ·rw [ho] at hg; cases hg
  ·rw [h3] at hg
   exact h.dist hf h0 h2 h4 h5 g hg)
 rw [show ((s, p) :: c.1, (k, some b) :: c.2.1, od) = (((s, p) :: c.1, (k, some b) :: c.2.1, od) : CA) from rfl]
 refine ⟨?_, fun k' b' e => ?_, fun k' b' e => ?_, fun hh k' hk' => ?_, fun hh k' b' e => ?_⟩
 ·rw [fs_new hke]
  refine (h1.know hp' (fun j hj => ?_)).keys (fun j hj => ?_)
  ·rw [hpk j hj]
   rintro (q | ⟨i, _, q⟩)
   ·exact q.2 rfl
   ·exact hodd i q.symm
  ·have hj2 : (if j = k then some b else lkp none c.2.1 j) = none := hj.2
   by_cases e : j = k
   ·rw [if_pos e] at hj2; cases hj2
   ·rw [if_neg e] at hj2; exact ⟨⟨hj.1, hj2⟩, e⟩
 ·have e : (if k' = k then some b else lkp none c.2.1 k') = some b' := e
  by_cases q : k' = k
  ·rw [q, upd_self]
   rcases ho with ⟨ho, _⟩ | ⟨j, b0, h0, h2, h3, h4, h5, h6⟩
   ·exact .inl ho
   ·exact .inr ⟨j, h0, by rw [h6]; simp, h3, b0, h4, h5⟩
  ·rw [if_neg q] at e
   rw [show upd V' k v k' = V' k' by simp [upd, q]]
   rcases h.old k' b' e with q1 | ⟨j', q0, q1, q2⟩
   ·exact .inl q1
   ·refine .inr ⟨j', q0, ?_, q2⟩
    rcases ho with ⟨_, ho⟩ | ⟨j, _, _, _, _, _, _, ho⟩
    ·rw [ho]; exact q1
    ·rw [ho]
     simp only [List.contains_cons, q1, Bool.or_true]
 ·have e : (if k' = k then some b else lkp none c.2.1 k') = some b' := e
  by_cases q : k' = k
  ·intro _; rw [q]; exact hk
  ·rw [if_neg q] at e; exact h.lt k' b' e
 ·rw [show upd V' k v k' = V' k' by simp only [upd]; rw [if_neg (by omega)]]
  exact h.odd hh k' hk'
 ·have e : (if k' = k then some b else lkp none c.2.1 k') = some b' := e
  by_cases q : k' = k
  ·rw [q]; exact hke
  ·rw [if_neg q] at e; exact h.ev hh k' b' e
theorem Cst.row {hp : Bool} {c : CA} (hf : RelC n0 w0 S0 N Fk f a w S V) (h : Cst n0 w0 S0 N f hp a w S V c V') {s k : Nat} (hke : k % 2 = 0) (hk : k < 2 * N) (hn : lkp none c.2.1 k = none) {b : Ob} {v : Value} (hb : OR w S V b v) (hbi : okH hp b.t = true) (hbf : ∀ i ∈ idsOf b, ∃ j, j < f.h ∧ i = od j) {od : List Nat}
  (ho : blk v = none ∧ od = c.2.2 ∨ ∃ j, j % 2 = 0 ∧ c.2.2.contains j = false ∧ v = V j ∧ f.o j = some b ∧ b.mu = true ∧ od = j :: c.2.2) {p : PV}
  (hp' : PVr w S (upd V' k v) ((c.fs f hp).new k b).sh p (a.tmps.getD s undef)) (hpk : ∀ j ∈ p.keys, j = k) : Cst n0 w0 S0 N f hp a w S V ((s, p) :: c.1, (k, some b) :: c.2.1, od) (upd V' k v) := by
 have hids : ∀ i ∈ idsOf b, hp = true := fun i hi => by
  obtain ⟨e, t, xs, m⟩ := b
  cases t <;> first | exact hbi | cases hi
 have hbV : OR w S V' b v := OR_mono (fun _ h => h) (fun _ _ => rfl) (fun _ _ _ => rfl) (fun i hi => by
  have hh := hids i hi
  obtain ⟨j, _, rfl⟩ := hbf i hi
  exact h.odd hh _ (by unfold TT.od; omega)) hb
 refine h.row' hf hke hk hn hbV (fun i hi => ?_) (ho.imp id fun ⟨j, q0, q1, q2, q3, q4, q5⟩ => ⟨j, b, fun _ => q0, q1, q2, q3, q4, q5⟩) hp' hpk
 have hh := hids i hi
 obtain ⟨j, j1, j2⟩ := hbf i hi
 exact ⟨j, by show j < (if hp = true then f.h else odn c.2.1); rw [if_pos hh]; exact j1, j2⟩
theorem Cst.orow {c : CA} (hf : RelC n0 w0 S0 N Fk f a w S V) (h : Cst n0 w0 S0 N f false a w S V c V') {x : Nat} {b : Ob} (hx : f.o x = some b) (hm : b.mu = true) (hok : okH false b.t = true) (hc : c.2.2.contains x = false) :
  Cst n0 w0 S0 N f false a w S V (c.1, (TT.od (odn c.2.1), some b) :: c.2.1, x :: c.2.2) (upd V' (TT.od (odn c.2.1)) (V x)) := by
 have hids : idsOf b = [] := by
  obtain ⟨e, t, xs, m⟩ := b
  cases t <;> first | rfl | cases hok
 have hh : (c.fs f false).h = odn c.2.1 := rfl
 have hno : odn ((TT.od (odn c.2.1), some b) :: c.2.1) = odn c.2.1 + 1 := by
  show (if TT.od (odn c.2.1) % 2 = 1 then odn c.2.1 + 1 else odn c.2.1) = _
  rw [if_pos (by unfold TT.od; omega)]
 have hbV : OR w S V' b (V x) := OR_mono (fun _ h => h) (fun _ _ => rfl) (fun _ _ _ => rfl) (fun i hi => by rw [hids] at hi; cases hi) (hf.ob x b hx)
 have h1 := h.rel.newo hbV hids (fun _ g hg => h.dist hf (fun q => by cases q) hc hx hm g hg)
 rw [hh] at h1
 have hne : ∀ k, k % 2 = 0 → k ≠ TT.od (odn c.2.1) := fun k hk e => by unfold TT.od at e; omega
 refine ⟨?_, fun k' b' e => ?_, fun k' b' e he => ?_, fun q => (by cases q), fun q => (by cases q)⟩
 ·have e1 : CA.fs (c.1, (TT.od (odn c.2.1), some b) :: c.2.1, x :: c.2.2) f false = ⟨(c.fs f false).g, upd (c.fs f false).o (TT.od (odn c.2.1)) (some b), odn c.2.1 + 1⟩ := by
   unfold CA.fs
   simp only [hno]
   rfl
  rw [e1]
  refine h1.keys fun k hk => ⟨hk.1, ?_⟩
  have hk2 : (if k = TT.od (odn c.2.1) then some b else lkp none c.2.1 k) = none := hk.2
  rw [if_neg (hne k hk.1)] at hk2; exact hk2
 ·have e : (if k' = TT.od (odn c.2.1) then some b else lkp none c.2.1 k') = some b' := e
  by_cases q : k' = TT.od (odn c.2.1)
  ·rw [q, upd_self]
   exact .inr ⟨x, fun q => (by cases q), (by simp), rfl, b, hx, hm⟩
  ·rw [if_neg q] at e
   rw [show upd V' (TT.od (odn c.2.1)) (V x) k' = V' k' by simp [upd, q]]
   rcases h.old k' b' e with q1 | ⟨j', q0, q1, q2⟩
   ·exact .inl q1
   ·exact .inr ⟨j', q0, by simp only [List.contains_cons, q1, Bool.or_true], q2⟩
 ·have e : (if k' = TT.od (odn c.2.1) then some b else lkp none c.2.1 k') = some b' := e
  rw [if_neg (hne k' he)] at e
  exact h.lt k' b' e he
theorem okH_row {hp : Bool} {t : Ty} (h : t.row = true) : okH hp t = true := by cases t <;> first | rfl | cases h
theorem cn1_ok {hp : Bool} (hf : RelC n0 w0 S0 N Fk f a w S V) {c : CA} (h : Cst n0 w0 S0 N f hp a w S V c V') (k : Nat) (m : HM) : ∃ V'', Cst n0 w0 S0 N f hp a w S V (cn1 f hp N k m c) V'' := by
 obtain ⟨g, o, od⟩ := c
 cases m with
 | keep =>
  obtain ⟨h1, h2⟩ := roOf_ok (V' := V') (sh := (CA.fs (g, o, od) f hp).sh) hf k
  exact ⟨V', h.put h1 h2⟩
 | row e t =>
  obtain ⟨h1, h2⟩ := roOf_ok (V' := V') (sh := (CA.fs (g, o, od) f hp).sh) hf k
  obtain ⟨h3, h4⟩ := rowOf_ok (e := e) (t := t) h1 h2
  exact ⟨V', h.put h3 h4⟩
 | heap => exact ⟨V', h⟩
 | ibx =>
  rw [cn1]
  split
  ·rename_i hc
   obtain ⟨hfal, hkN, hnn⟩ := hc
   subst hfal
   have hn : lkp none o (2 * k) = none := by simpa using hnn
   have hv := hf.sl k
   split
   ·rename_i j i fs hg
    rw [hg] at hv
    split
    ·rename_i e e' t' x hib
     have hb := ibxOf_eq hib
     split
     ·rename_i b hbx
      split
      ·rename_i hm
       obtain ⟨⟨m1, m2⟩, m3, m4, m5, m6⟩ := hm
       have hj := h.orow hf hbx m1 m2 m6
       have hxj : j ≠ x := fun e => by omega
       have hor := hf.ob j _ hb
       have hor : w.ownsRow 0 e 1 (V j) 1 [V x] := hor
       refine ⟨_, hj.row' (s := k) (k := 2 * k) (b := ⟨e, .id e' t', [TT.od (odn o)], true⟩) (v := V j) (p := .ptr (2 * k) i fs) hf (by omega) (by omega) ?_ ?_ (fun i hi => ?_) (.inr ⟨j, _, fun q => (by cases q), ?_, rfl, hb, rfl, rfl⟩) ?_ (fun j hj => by simpa [PV.keys] using hj)⟩
       ·show (if 2 * k = TT.od (odn o) then some b else lkp none o (2 * k)) = none
        rw [if_neg (by unfold TT.od; omega)]; exact hn
       ·rw [OR_id]
        have : List.map (upd V' (TT.od (odn o)) (V x)) [TT.od (odn o)] = [V x] := by simp [upd]
        show w.ownsRow 0 e 1 (V j) 1 (List.map _ _)
        rw [this]; exact hor
       ·have hi : i = TT.od (odn o) := by simpa [idsOf] using hi
        refine ⟨odn o, ?_, hi⟩
        show odn o < (if TT.od (odn o) % 2 = 1 then odn o + 1 else odn o)
        rw [if_pos (by unfold TT.od; omega)]; omega
       ·show List.contains (x :: od) j = false
        rw [List.contains_cons, m5, Bool.or_false]
        exact beq_eq_false_iff_ne.2 hxj
       ·intro n' t2 e2
        rw [sh_new] at e2
        rw [upd_self]
        exact hv n' t2 (by simp only [FS.sh, hb]; exact e2)
      ·exact ⟨V', h⟩
     ·exact ⟨V', h⟩
    ·exact ⟨V', h⟩
   ·exact ⟨V', h⟩
  ·exact ⟨V', h⟩
 | own e t =>
  rw [cn1]
  split
  ·rename_i hc
   have hn : lkp none o (2 * k) = none := by simpa using hc.2
   have hv := hf.sl k
   split
   ·rename_i hg
    rw [hg] at hv
    split
    ·rename_i hr
     refine ⟨_, h.row (p := .own (2 * k)) hf (by omega) (by omega) hn (OR_nil hr) (okH_row hr) (nids hr) (.inl ⟨rfl, rfl⟩) ?_ (fun j hj => by simpa [PV.keys] using hj)⟩
     intro n' t' e'
     rw [upd_self]; exact hv
    ·exact ⟨V', h⟩
   ·rename_i j hg
    rw [hg] at hv
    split
    ·rename_i b hb
     split
     ·rename_i hm
      refine ⟨_, h.row (p := .own (2 * k)) hf (by omega) (by omega) hn (hf.ob j b hb) hm.1.2 (hf.fi j b hb) (.inr ⟨j, hm.2.1, hm.2.2, rfl, hb, hm.1.1, rfl⟩) ?_ (fun j hj => by simpa [PV.keys] using hj)⟩
      intro n' t' e'
      rw [upd_self]; exact hv _ _ (by simp [FS.sh, hb]; exact ⟨rfl, rfl⟩)
     ·exact ⟨V', h⟩
    ·exact ⟨V', h⟩
   ·exact ⟨V', h⟩
  ·exact ⟨V', h⟩
 | box =>
  rw [cn1]
  split
  ·rename_i hc
   have hn : lkp none o (2 * k) = none := by simpa using hc.2
   have hv := hf.sl k
   split
   ·rename_i j i fs hg
    rw [hg] at hv
    split
    ·rename_i b hb
     split
     ·rename_i hm
      refine ⟨_, h.row (p := .ptr (2 * k) i fs) hf (by omega) (by omega) hn (hf.ob j b hb) hm.1.2 (hf.fi j b hb) (.inr ⟨j, hm.2.1, hm.2.2, rfl, hb, hm.1.1, rfl⟩) ?_ (fun j hj => by simpa [PV.keys] using hj)⟩
      intro n' t' e'
      rw [sh_new] at e'
      rw [upd_self]; exact hv n' t' (by simp only [FS.sh, hb]; exact e')
     ·exact ⟨V', h⟩
    ·exact ⟨V', h⟩
   ·exact ⟨V', h⟩
  ·exact ⟨V', h⟩
theorem cnl_ok {hp : Bool} (hf : RelC n0 w0 S0 N Fk f a w S V) : ∀ (l : List (Nat × HM)) {c : CA} {V' : Nat → Value}, Cst n0 w0 S0 N f hp a w S V c V' → ∃ V'', Cst n0 w0 S0 N f hp a w S V (cnl f hp N l c) V''
 | [], c, V', h => ⟨V', h⟩
 | (k, m) :: l, c, V', h => by
  obtain ⟨V2, h2⟩ := cn1_ok hf h k m
  exact cnl_ok hf l h2
def Fe (nx : Nat) : Nat → Prop := fun k => nx ≤ k ∧ k % 2 = 0
theorem odd_some {hp : Bool} {k : Nat} {b : Ob} (e : oddF f hp (fun _ => none) k = some b) : hp = true ∧ k % 2 = 1 ∧ f.o k = some b := by
 by_cases h : k % 2 = 0
 ·rw [oddF_even h] at e; cases e
 ·obtain ⟨h1, h2⟩ := oddF_odd (by omega) rfl e; exact ⟨h1, by omega, h2⟩
theorem RelC.canon (h : RelC n0 w0 S0 N Fk f a w S V) (l : List (Nat × HM)) : ∃ S' V', RelC n0 w0 S0 N (Fe (2 * N)) (f.canon N l) a w S' V' := by
 obtain ⟨S', h1⟩ := h.fzs l
 have h0 : Cst n0 w0 S0 N (f.fzs l) (hasHeap l) a w S' V ([], [], []) V := by
  refine ⟨⟨h1.bel, h1.nle, h1.df, h1.sz, fun i => trivial, fun k o e => ?_, fun k k' o o' hne e e' => ?_, fun k o e => ?_, fun k o e => ?_, h1.old, h1.lt, fun k hk => ?_, (fun i k hk => by cases hk), fun k o e i hi => ?_, fun k hk => hk.1⟩, (fun k b e => by cases e), (fun k b e => by cases e), fun _ _ _ => rfl, (fun _ k b e => by cases e)⟩
  ·obtain ⟨_, _, e⟩ := odd_some e; exact h1.ob k o e
  ·obtain ⟨_, _, e⟩ := odd_some e
   obtain ⟨_, _, e'⟩ := odd_some e'
   exact h1.ds k k' o o' hne e e'
  ·obtain ⟨_, _, e⟩ := odd_some e; exact h1.sp k o e
  ·obtain ⟨_, _, e⟩ := odd_some e; exact h1.ow k o e
  ·rcases e : (CA.fs ([], [], []) (f.fzs l) (hasHeap l)).o k with _ | o
   ·rfl
   ·obtain ⟨e1, e2, e3⟩ := odd_some e
    rcases hk with hk | ⟨i, hk1, hk2⟩
    ·omega
    ·have hk1 : (if hasHeap l = true then (f.fzs l).h else 0) ≤ i := hk1
     rw [if_pos e1] at hk1
     rw [h1.fr k (.inr ⟨i, hk1, hk2⟩)] at e3; cases e3
  ·obtain ⟨e1, _, e⟩ := odd_some e
   obtain ⟨j, j1, j2⟩ := h1.fi k o e i hi
   exact ⟨j, by show j < (if hasHeap l = true then (f.fzs l).h else 0); rw [if_pos e1]; exact j1, j2⟩
 obtain ⟨V', h2⟩ := cnl_ok h1 l h0
 refine ⟨S', V', h2.rel.keys fun k hk => ⟨hk.2, ?_⟩⟩
 rcases e : lkp none (cnl (f.fzs l) (hasHeap l) N l ([], [], [])).2.1 k with _ | b
 ·rfl
 ·have := h2.lt k b e hk.2; have := hk.1; omega
end
end Go.TT
end

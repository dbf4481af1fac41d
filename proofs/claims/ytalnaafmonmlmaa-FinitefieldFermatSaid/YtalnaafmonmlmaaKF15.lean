/- Machine side and arithmetic of the law, put together by a program of the session. No conditions. -/
import Derived.Test.YtalnaafmonmlmaaProg
import Derived.KernelRfl
import Derived.Test.YtalnaafmonmlmaaKF9
import Derived.Test.YtalnaafmonmlmaaKF12
section
namespace Go.Proofs.Ytalnaafmonmlmaa.Q
open Go.RowKit Go.TT Go.Proofs.YtalnaafmonmlmaaW.PrintWords
set_option linter.unusedVariables false
def TE : TypeId → Option Ty
 | 3 => some (.int .i64)
 | 4 => some (.bool)
 | 5 => some (.int .u8)
 | 9 => some (.str)
 | 24 => some (.sl 3 (.int .i64))
 | 25 => some (.sl 3 (.int .i64))
 | 26 => some (.int .i64)
 | 33 => some (.pr (.int .i64) (.pr (.sl 3 (.int .i64)) (.un)))
 | 51 => some (.str)
 | 56 => some (.sl 4 (.bool))
 | 68 => some (.pr (.pr (.int .i64) (.pr (.sl 3 (.int .i64)) (.un))) (.un))
 | 84 => some (.int .u64)
 | 91 => some (.sl 25 (.sl 3 (.int .i64)))
 | 102 => some (.sl 84 (.int .u64))
 | 103 => some (.sl 107 (.pr (.int .i64) (.pr (.int .i64) (.un))))
 | 107 => some (.pr (.int .i64) (.pr (.int .i64) (.un)))
 | 112 => some (.sl 5 (.int .u8))
 | _ => none
theorem TE_ok : ∀ e t, TE e = some t → TyOk Try.prog t e := by
 intro e t h
 unfold TE at h
 split at h <;> first | (injection h with h; subst h; exact tyChk_ok (by kernel_rfl)) | cases h
theorem sh_ {k : IntKind} {x y : Int} : shrT k x y = shr k x y := by unfold shr shrT; exact Int.fdiv_eq_ediv_of_nonneg _ (Int.le_of_lt (Int.pow_pos (by decide)))
theorem sl_ {k : IntKind} {x y : Int} : shlT k x y = shl k x y := rfl
theorem bt_ {s : ByteArray} {i : Int} : btT s i = bt s i := by
 unfold btT bt
 by_cases h : i.toNat < s.size
 ·rw [dif_pos h, Array.getD_eq_getD_getElem?, Array.getElem?_eq_getElem h]; rfl
 ·rw [dif_neg h, Array.getD_eq_getD_getElem?, Array.getElem?_eq_none (Nat.le_of_not_lt h)]; rfl
theorem sc_i64_1 {x : Int} : shr .i64 x 1 = x / 2 := rfl
theorem sc_i64_8 {x : Int} : shr .i64 x 8 = x / 256 := rfl
theorem sc_i64_32 {x : Int} : shr .i64 x 32 = x / 4294967296 := rfl
theorem sc_u64_1 {x : Int} : shr .u64 x 1 = x / 2 := rfl
theorem sc_u64_8 {x : Int} : shr .u64 x 8 = x / 256 := rfl
theorem sc_u64_32 {x : Int} : shr .u64 x 32 = x / 4294967296 := rfl
theorem sc_u8_1 {x : Int} : shr .u8 x 1 = x / 2 := rfl
theorem rdm_107 {l : List S107} {i : Int} : List.getD (List.map (fun s : S107 => (s.f0, (s.f1, ()))) l) i.toNat ((0 : Int), ((0 : Int), ())) = ((rd_T107 l i).f0, ((rd_T107 l i).f1, ())) := by
 rw [List.getD_eq_getElem?_getD, List.getElem?_map]; unfold rd_T107; rw [List.getD_eq_getElem?_getD]; cases l[i.toNat]? <;> rfl
theorem wr_8 {n : Int} : wr .u8 n = n % 256 := by simp only [wr, IntKind.wrap]; simp [IntKind.bits, IntKind.signed]
theorem wr_u {n : Int} : wr .u64 n = IntKind.u64.wrap n := rfl
theorem wi_ {n : Int} : IntKind.i64.wrap n = wrap64 n := wr_64
theorem sn_ {xs : List Int} : strN xs = strOfNums xs := by
 unfold strN
 rw [foldl_push_bytes]
 simp [strOfNums, ByteArray.empty, ByteArray.emptyWithCapacity]
 try rfl
theorem mx_ {a b : Int} : (if b > a then b else a) = mx a b := rfl
theorem rd_ {l : List Int} {i : Int} : l.getD i.toNat 0 = rd l i := rfl
theorem te_3 : TE 3 = some ((.int .i64)) := rfl
theorem te_4 : TE 4 = some ((.bool)) := rfl
theorem te_5 : TE 5 = some ((.int .u8)) := rfl
theorem te_9 : TE 9 = some ((.str)) := rfl
theorem te_24 : TE 24 = some ((.sl 3 (.int .i64))) := rfl
theorem te_25 : TE 25 = some ((.sl 3 (.int .i64))) := rfl
theorem te_26 : TE 26 = some ((.int .i64)) := rfl
theorem te_33 : TE 33 = some ((.pr (.int .i64) (.pr (.sl 3 (.int .i64)) (.un)))) := rfl
theorem te_51 : TE 51 = some ((.str)) := rfl
theorem te_56 : TE 56 = some ((.sl 4 (.bool))) := rfl
theorem te_68 : TE 68 = some ((.pr (.pr (.int .i64) (.pr (.sl 3 (.int .i64)) (.un))) (.un))) := rfl
theorem te_84 : TE 84 = some ((.int .u64)) := rfl
theorem te_91 : TE 91 = some ((.sl 25 (.sl 3 (.int .i64)))) := rfl
theorem te_102 : TE 102 = some ((.sl 84 (.int .u64))) := rfl
theorem te_103 : TE 103 = some ((.sl 107 (.pr (.int .i64) (.pr (.int .i64) (.un))))) := rfl
theorem te_107 : TE 107 = some ((.pr (.int .i64) (.pr (.int .i64) (.un)))) := rfl
theorem te_112 : TE 112 = some ((.sl 5 (.int .u8))) := rfl
attribute [go_sem] te_3 te_4 te_5 te_9 te_24 te_25 te_26 te_33 te_51 te_56 te_68 te_84 te_91 te_102 te_103 te_107 te_112 mx_ rd_ sn_ sh_ sl_ bt_ rdm_107 sc_i64_1 sc_i64_8 sc_i64_32 sc_u64_1 sc_u64_8 sc_u64_32 sc_u8_1 wr_8 wr_u thenK_n w_1 thenK_r thenK_e inBlk_n inBlk_r inBlk_e loopK_n loopK_r loopK_e tw_skip tw_ret tw_exit tw_reg tw_regd tw_seq tw_block cnd_t cnd_f tw_cond rgn_nil rgn_cons grd_n gr_t gr_f grd_s kk_0 kk_1 stp_call stp_move stp_assign stp_pick stp_bin stp_un stp_conv stp_load stp_idxA stp_fldA stp_fld stp_idx stp_make stp_alloc stp_ext stp_nilC stp_store stp_append stp_copy stp_sliced stp_slice stp_slice3 fEv_sl stp_build stp_buildd stp_bldS stp_bldSd stp_box stp_boxd ev_sl ev_sl3 dOk_n dOk_s res_op op_t op_c cst_i cst_b cst_s cst_n ar_ro ar_nil ar_own ar_ptr ar_cel ar_pair g_mk o_mk put_mk put_no new_mk del_mk set_mk trim_mk news_0 news_1 upd_s look_nil look_s fzo_nil fzo_cons fz1_own fz1_ro fz1_nil fz1_cel fz1_ptr fz1_bot frz_mk frzO_s aConv_r aConv_o TV.ofT_self List.map_cons List.map_nil Option.bind_some Option.bind_none Option.isSome_some Option.isSome_none List.length_cons List.length_nil List.size_toArray List.getElem?_toArray List.getElem?_cons_zero List.getElem?_cons_succ Option.toArray_some Option.toArray_none reduceIte ite_true ite_false true_and and_true false_and and_false and_self eq_self Nat.reduceAdd Nat.reduceMul Nat.reduceEqDiff Nat.reduceLT Nat.reduceDiv Bool.false_eq_true Bool.true_eq_false false_or true_or or_true or_false List.getElem_toArray List.getElem_cons_zero List.getElem_cons_succ Nat.zero_add Nat.add_zero List.append_nil List.nil_append List.cons_append Array.toList_append List.toList_toArray stp_len1 stp_max2 stp_min2 fzs_nil fzs_keep fzs_row fzs_own fzs_box FS.canon CA.fs List.contains_nil List.contains_cons Option.isNone_none Option.isNone_some entry wr_64 decide_eq_true_eq nb_ ite_not nf_ Bool.not_true Bool.not_false List.length_set ne_eq Bool.false_and Bool.true_and Bool.and_true Bool.and_false h_mk frzO_n frzO_m frzO_i fzs_heap fzq_own fzq_ro fzq_nil fzq_cel fzq_ptr fzq_vw fzq_bot fz1_vw fz1_one ar_vw ar_one op_f cleV_f cleI_i calK stp_callv stp_calli stp_mup fEv_bld fBlS_0 fBlS_1 fBlS_2 fB1_ow fB1_of fB1_ro fB1_n fB1_c fB1_v one1_0 one1_2 one1_ow one1_of one1_ro one1_n one1_c one1_v fAp_n fAp_o fAp_i fApG_1 fApG_r fApG_n fApG_o fApG_v fSt_r fSt_i aLoad_c aLoad_r aLoad_i aLoad_p aIdxA_r aIdxA_i aIdxA_o aIdxA_v aLen_r aLen_i aLen_m aLen_o aLen_v aLen_s aSli_r aSli_f aSli_t aSli_v aLook_0 aLook_1 stp_mkMap0 stp_mkMap1 stp_look stp_fn stp_fnd stp_ifc stp_ifcd aFn List.take_succ_cons List.take_zero List.drop_succ_cons List.drop_zero Nat.reduceMod adopt_mk adO_s row_int row_bool row_str row_un row_sl row_pr row_rf row_fn row_ifc nid_int nid_bool nid_str nid_sl nid_pr nid_mp flat_sl flat_rf flat_fn flat_ifc flat_mp flat_int flat_bool flat_str flat_un flat_pr okH_int okH_bool okH_str okH_sl okH_pr okH_mp okH_id okH_rf hH_nil hH_k hH_r hH_o hH_b hH_h key_own key_ptr key_vw key_one key_ro key_cel key_nil key_bot oddF_f oddF_t aBin_i aBin_se aBin_sn bin_add bin_sub bin_mul bin_quo bin_rem bin_eql bin_neq bin_lss bin_leq bin_gtr bin_geq bin_and bin_or bin_xor bin_andNot bin_shl bin_shr aUn_i aUn_b aMax_i aMin_i mkS_s aMake_i tySl_s tyMp_s tyPr_s tyIn_s tySm_s aPick_b aSli3_r aSli3_o roSl_0 roSl_l roSl_h roSl_b roSl3_2 roSl3_3 vwSl_0 vwSl_l vwSl_h vwSl_b aFldA_c aFldA_r offK_s offK_m aFldA_p aFld_r aIdx_s aAlloc_0 aBox_1 lst_0 lst_c bldK_s bldK_n aBldS_d bldQ_s bldQ_m bld_0 bld_c aBld_d extK_s aExt_1 pn_0 pn_s aNilC_p aNilC_c aNilC_r aNilC_f aIfc_1 aMap_a aMap_b aConv_k aLen_z shd_ro shd_nil shd_own shd_vw shd_one shd_cel shd_ptr rdc_ro rdc_nil rdc_own rdc_vw rdc_one tvA_ro tvA_own tvA_vw tvA_one tvA_cel tvA_ptr tvs_0 tvs_c rd1_nil rd1_ro rd1_cel rd1_own rd1_vw rd1_one rd1_ptr rds_0 rds_c noO_s noO_n noOwn_0 noOwn_c flatR_0 flatR_t flatR_f obsOf_0 obsOf_t obsOf_f pvsOf_0 pvsOf_t pvsOf_f tupOf_0 tupOf_c pvOf_0 pvOf_1 pvOf_2 retK_r retK_n usK_s usK_n outQ_s outP_n outP_o outs_0 outs_f outs_c outs_o fSto_p fApp_n fApp_o fCopy_o fMUp_o fCut_i fSli3_o fSli3_r fSli3_n fSli3_v fSli_00 fSli_0h fSli_l fSli_f fSli_r fSli_n fSli_v fStI_o fStI_n fStI_r fApI_1 off_n off_0 off_s pj_0 pj_s st_n st_0 st_s sz_int sz_bool sz_str sz_sl sz_pr sz_un sz_rf sz_fn sz_ifc zv_int zv_bool zv_str zv_sl zv_pr zv_un by_8 by_u8 by_4 by_u4 by_1 by_u1 by_bool by_str by_sl by_pr by_un tv_pr tv_un tup_0 tup_c roQ_s roQ_n roOf_o roOf_r roOf_c roOf_n roOf_b roOf_p roOf_v rowOf_n rowOf_r rowOf_b cn1_keep cn1_row cnQ_s cnO_n cnO_o cnO_b cn1_own cnB_p cnB_b cn1_box cn1_heap cnl_0 cnl_c sel_t sel_f Nat.reduceBEq pj_i pj_b pj_st pj_sl pj_pr pj_un pj_rf pj_fn pj_if gd_0 ls_0 Option.map_some cng_r cng_n ar_tnil ar_bot fz1_tnil roOf_t cnO_t cnB_t aConv_v List.take_length List.length_map fzq_one roQ1_s roOf_1 Nat.zero_le Nat.reduceLeDiff rfV_f rfr_0 rfr_c puts_0 puts_c asgK_n rndK_n rndK_r rndK_e Bool.or_false Bool.false_or Bool.or_true Bool.true_or alC_b alC_t stp_allocd fAlI_s FS.marks
theorem go_ {A B : Prop} (b : B) (h : A = B := by ((try simp only [go_sem]); rfl)) : A := h ▸ b
theorem fg_ {f : FS} {k : KF} {B : Prop} (b : B) (h : k f = B := by ((try simp only [go_sem]); rfl)) : fzl f k := fl_ (h ▸ b)
theorem pg_ {b : Bool} {x y p B : Prop} (k : B) (e : (b = true) = p := by (try simp only [decide_eq_true_eq, nb_, nf_, Bool.and_eq_true, Bool.or_eq_true, beq_iff_eq, bne_iff_ne, ne_eq]); rfl) (h : p := by first | assumption | exact trivial | omega) (g : x = B := by ((try simp only [go_sem]); rfl)) : cnd (.ro .bool b) x y := cp_ (g ▸ k) e h
theorem qg_ {b : Bool} {x y p B : Prop} (k : B) (e : (b = true) = p := by (try simp only [decide_eq_true_eq, nb_, nf_, Bool.and_eq_true, Bool.or_eq_true, beq_iff_eq, bne_iff_ne, ne_eq]); rfl) (h : ¬ p := by first | assumption | exact not_false | exact not_not_intro (by assumption) | omega) (g : y = B := by ((try simp only [go_sem]); rfl)) : cnd (.ro .bool b) x y := cq_ (g ▸ k) e h
theorem hs_ {A B : Prop} (a : A) (h : A = B := by (try simp only [wi_, Option.bind_some, beq_iff_eq, bne_iff_ne, ne_eq, ite_not, nb_, nf_, decide_eq_true_eq, reduceIte, Bool.false_eq_true, eq_self, ite_true, ite_false]); rfl) : B := h ▸ a
theorem con_ {ps : List Nat} {res : List RS} {fn : FuncId} {F : Func} {N : Nat} {c : Code} {al : List TV} {rs : List RV} (h : tw Try.prog TE N ps c (2 * N) ⟨lkp .bot (entry 0 al), fun _ => none, 0⟩ (retK TE res rs)) (hf : Try.prog.funcs[fn]? = some F) (hN : F.ntmps = N) (hb : F.body = some c := by rfl) (hr : F.results = (res.map resv).toArray := by rfl) (hname : (F.name == "runtime.NumGoroutine") = false := by kernel_rfl) (hn : al.length ≤ N := by simp) : Con Try.prog fn al rs :=
 con_of TE_ok (by kernel_rfl) hf hname hb hN hr hn h
end Go.Proofs.Ytalnaafmonmlmaa.Q
end
section
set_option linter.unusedVariables false
set_option maxRecDepth 100000
set_option maxHeartbeats 8000000
namespace Go.Proofs.Ytalnaafmonmlmaa.Q
open Go.RowKit Go.TT Go.Proofs.YtalnaafmonmlmaaW.PrintWords
theorem gFElement_con {k : Nat} {a0_0 : Int} {l0_1 : List Int} {a1 : Int} {r : List Int} (h : gFElement.f k a0_0 l0_1 a1 = some r) : Con Try.prog 52 [⟨.pr (.pr (.int .i64) (.pr (.sl 3 (.int .i64)) (.un))) (.un), ((a0_0, (l0_1, ())), ())⟩, ⟨.int .i64, a1⟩] [(false, ⟨.sl 3 (.int .i64), r⟩)] := by
 refine con_ (ps := [0, 1, 2, 4, 5, 7]) (res := [(4, none)]) ?_ Try.func52 Try.ntmps52
 refine go_ ?_
 unfold gFElement.f at h
 replace h := hs_ h
 repeat' (first | split at h | fail)
 all_goals first
  | (cases h <;> (repeat (first | refine fg_ ?_ | refine pg_ ?_ | refine qg_ ?_ | refine an_ ?_ | refine ip_ ?_ | refine in_ ?_)) <;> (first | done | rfl | trivial | (simp; done)))
  | (
    (with_reducible have h : gFElement.l0 _ _ _ _ _ = some r := h)
    repeat (first | refine fg_ ?_ | refine pg_ ?_ | refine qg_ ?_ | refine an_ ?_ | refine ip_ ?_ | refine in_ ?_)
    refine lp [(1, .keep), (5, .own 3 (.int .i64)), (2, .box)] fun X0 hX0 => ?_
    refine go_ ?_
    have key : ∀ k x1 x5 x102000 x102001, gFElement.l0 k x1 x5 x102000 x102001 = some r → X0 ⟨lkp .bot [(2, .ptr 4 0 []), (5, .own 10), (1, .ro (.int .i64) x1)], lkp none [(4, some ⟨68, .pr (.pr (.int .i64) (.pr (.sl 3 (.int .i64)) (.un))) (.un), [((x102000, (x102001, ())), ())], true⟩), (10, some ⟨3, .int .i64, x5, true⟩)], 0⟩ := by
     refine sind fun k ih0 x1 x5 x102000 x102001 h => hX0 _ ?_
     clear hX0
     rcases k with _ | k
     ·cases h
     unfold gFElement.l0 at h
     replace h := hs_ h
     refine go_ ?_
     repeat' (first | split at h | fail)
     all_goals (first | ((repeat (first | refine fg_ ?_ | refine pg_ ?_ | refine qg_ ?_ | refine an_ ?_ | refine ip_ ?_ | refine in_ ?_)); exact ih0 _ (by omega) _ _ _ _ h) | (cases h <;> (repeat (first | refine fg_ ?_ | refine pg_ ?_ | refine qg_ ?_ | refine an_ ?_ | refine ip_ ?_ | refine in_ ?_)) <;> (first | done | rfl | trivial | (simp; done))))
    exact key _ _ _ _ _ h)
def idxB (p : Int → Bool) : List Int → Nat → Int
 | [], _ => -1
 | x :: xs, j => if p x = true then (j : Int) else idxB p xs (j + 1)
theorem idx_any {p : Int → Bool} : ∀ (l : List Int) (j : Nat), decide (idxB p l j ≥ 0) = l.any p
 | [], j => rfl
 | x :: xs, j => by
  unfold idxB
  by_cases h : p x = true
  ·rw [if_pos h, List.any_cons, h, Bool.true_or]; exact decide_eq_true (by omega)
  ·rw [if_neg h, List.any_cons, idx_any xs, Bool.eq_false_iff.2 h, Bool.false_or]
theorem wj_ {l : List Int} {j : Nat} (hl : l.length ≤ 4611686018427387904) (hj : j < l.length) : wrap64 ((j : Int) + 1) = ((j + 1 : Nat) : Int) := by
 unfold wrap64; omega
theorem index143_con {g : FuncId} {a c : Ty} {z : (Ty.fn (.func g) a c).den} {l : List Int} {p : Int → Bool} (hl : l.length ≤ 4611686018427387904) (hp : ∀ x, x ∈ l → Con Try.prog g (a.tvs z.1 ++ ([⟨.int .i64, x⟩] ++ c.tvs z.2)) [(false, ⟨.bool, p x⟩)]) :
  Con Try.prog 126 [⟨.sl 3 (.int .i64), l⟩, ⟨.fn (.func g) a c, z⟩] [(false, ⟨.int .i64, idxB p l 0⟩)] := by
 refine con_ (ps := [0, 1, 4, 5, 7, 8, 9, 16]) (res := [(4, none)]) ?_ Try.func126 Try.ntmps126
 refine go_ ?_
 refine lp [(0, .row 3 (.int .i64)), (1, .keep), (7, .keep), (8, .keep)] fun X0 hX0 => ?_
 refine go_ ?_
 have key : ∀ (n j : Nat), l.length = j + n → idxB p (l.drop j) j = idxB p l 0 → X0 ⟨lkp .bot [(8, .ro (.int .i64) (j : Int)), (7, .ro (.int .i64) (l.length : Int)), (1, .ro (.fn (.func g) a c) z), (0, .ro (.sl 3 (.int .i64)) l)], lkp none [], 0⟩ := by
  intro n
  induction n with
  | zero =>
   intro j h1 h2
   refine hX0 _ ?_
   clear hX0
   refine go_ ?_
   refine cq_ ?_
   refine go_ ?_
   have h3 : -1 = idxB p l 0 := by rw [← h2, List.drop_of_length_le (by omega)]; rfl
   exact h3
  | succ n ih =>
   intro j h1 h2
   refine hX0 _ ?_
   clear hX0
   refine go_ ?_
   refine cp_ ?_
   refine go_ ?_
   have hj : j < l.length := by omega
   have hr : rd l (j : Int) = l[j] := by unfold rd; simp [hj]
   refine an_ ?_
   refine an_ ?_
   refine ⟨_, hp _ (by rw [hr]; exact List.getElem_mem hj), ?_⟩
   refine go_ ?_
   try refine an_ ?_
   rw [List.drop_eq_getElem_cons hj, idxB, ← hr] at h2
   by_cases hq : p (rd l (j : Int)) = true
   ·rw [if_pos hq] at h2
    refine cp_ ?_
    refine go_ ?_
    exact h2
   ·rw [if_neg hq] at h2
    refine cq_ ?_
    refine go_ ?_
    rw [wj_ hl hj]
    exact ih (j + 1) (by omega) h2
 exact key l.length 0 (by omega) rfl
theorem index134_con {g : FuncId} {a c : Ty} {z : (Ty.fn (.func g) a c).den} {l : List Int} {p : Int → Bool} (hl : l.length ≤ 4611686018427387904) (hp : ∀ x, x ∈ l → Con Try.prog g (a.tvs z.1 ++ ([⟨.int .i64, x⟩] ++ c.tvs z.2)) [(false, ⟨.bool, p x⟩)]) :
  Con Try.prog 105 [⟨.sl 3 (.int .i64), l⟩, ⟨.fn (.func g) a c, z⟩] [(false, ⟨.int .i64, idxB p l 0⟩)] := by
 refine con_ (ps := [0, 1, 4, 5, 7, 8, 9, 16]) (res := [(4, none)]) ?_ Try.func105 Try.ntmps105
 refine go_ ?_
 refine lp [(0, .row 3 (.int .i64)), (1, .keep), (7, .keep), (8, .keep)] fun X0 hX0 => ?_
 refine go_ ?_
 have key : ∀ (n j : Nat), l.length = j + n → idxB p (l.drop j) j = idxB p l 0 → X0 ⟨lkp .bot [(8, .ro (.int .i64) (j : Int)), (7, .ro (.int .i64) (l.length : Int)), (1, .ro (.fn (.func g) a c) z), (0, .ro (.sl 3 (.int .i64)) l)], lkp none [], 0⟩ := by
  intro n
  induction n with
  | zero =>
   intro j h1 h2
   refine hX0 _ ?_
   clear hX0
   refine go_ ?_
   refine cq_ ?_
   refine go_ ?_
   have h3 : -1 = idxB p l 0 := by rw [← h2, List.drop_of_length_le (by omega)]; rfl
   exact h3
  | succ n ih =>
   intro j h1 h2
   refine hX0 _ ?_
   clear hX0
   refine go_ ?_
   refine cp_ ?_
   refine go_ ?_
   have hj : j < l.length := by omega
   have hr : rd l (j : Int) = l[j] := by unfold rd; simp [hj]
   refine an_ ?_
   refine an_ ?_
   refine ⟨_, hp _ (by rw [hr]; exact List.getElem_mem hj), ?_⟩
   refine go_ ?_
   try refine an_ ?_
   rw [List.drop_eq_getElem_cons hj, idxB, ← hr] at h2
   by_cases hq : p (rd l (j : Int)) = true
   ·rw [if_pos hq] at h2
    refine cp_ ?_
    refine go_ ?_
    exact h2
   ·rw [if_neg hq] at h2
    refine cq_ ?_
    refine go_ ?_
    rw [wj_ hl hj]
    exact ih (j + 1) (by omega) h2
 exact key l.length 0 (by omega) rfl
theorem contains137_con {g : FuncId} {a c : Ty} {z : (Ty.fn (.func g) a c).den} {l : List Int} {p : Int → Bool} (hl : l.length ≤ 4611686018427387904) (hp : ∀ x, x ∈ l → Con Try.prog g (a.tvs z.1 ++ ([⟨.int .i64, x⟩] ++ c.tvs z.2)) [(false, ⟨.bool, p x⟩)]) :
  Con Try.prog 122 [⟨.sl 3 (.int .i64), l⟩, ⟨.fn (.func g) a c, z⟩] [(false, ⟨.bool, l.any p⟩)] := by
 refine con_ (ps := [0, 1, 4]) (res := [(4, none)]) ?_ Try.func122 Try.ntmps122
 refine go_ ?_
 (repeat (first | refine fg_ ?_ | refine pg_ ?_ | refine qg_ ?_ | refine an_ ?_ | refine ip_ ?_ | refine in_ ?_))
 refine ⟨_, index143_con hl hp, ?_⟩
 refine go_ ?_
 try refine an_ ?_
 exact idx_any l 0
theorem contains108_con {g : FuncId} {a c : Ty} {z : (Ty.fn (.func g) a c).den} {l : List Int} {p : Int → Bool} (hl : l.length ≤ 4611686018427387904) (hp : ∀ x, x ∈ l → Con Try.prog g (a.tvs z.1 ++ ([⟨.int .i64, x⟩] ++ c.tvs z.2)) [(false, ⟨.bool, p x⟩)]) :
  Con Try.prog 81 [⟨.sl 3 (.int .i64), l⟩, ⟨.fn (.func g) a c, z⟩] [(false, ⟨.bool, l.any p⟩)] := by
 refine con_ (ps := [0, 1, 4]) (res := [(4, none)]) ?_ Try.func81 Try.ntmps81
 refine go_ ?_
 (repeat (first | refine fg_ ?_ | refine pg_ ?_ | refine qg_ ?_ | refine an_ ?_ | refine ip_ ?_ | refine in_ ?_))
 refine ⟨_, index134_con hl hp, ?_⟩
 refine go_ ?_
 try refine an_ ?_
 exact idx_any l 0
theorem bad1_con {x : Int} : Con Try.prog 123 [⟨.int .i64, x⟩] [(false, ⟨.bool, badP x⟩)] := by
 refine con_ (ps := [0, 2]) (res := [(2, none)]) ?_ Try.func123 Try.ntmps123
 refine go_ ?_
 have e : badP x = (decide (x < 1) || decide (2147483647 < x)) := rfl
 by_cases h : x < 1
 ·rw [decide_eq_true h, Bool.true_or] at e
  (repeat (first | refine fg_ ?_ | refine pg_ ?_ | refine qg_ ?_ | refine an_ ?_ | refine ip_ ?_ | refine in_ ?_))
  all_goals (first | exact e.symm | (simp [e, h]; done))
 ·rw [decide_eq_false h, Bool.false_or] at e
  (repeat (first | refine fg_ ?_ | refine pg_ ?_ | refine qg_ ?_ | refine an_ ?_ | refine ip_ ?_ | refine in_ ?_))
  all_goals (first | exact e.symm | (simp [e, h]; done))
theorem rs_bad_con {a0 : List Int} {r : Bool} (h : rs_bad.f a0 = some r) (hl : a0.length ≤ 4611686018427387904 := by first | (simp; done) | omega) : Con Try.prog 115 [⟨.sl 3 (.int .i64), a0⟩] [(false, ⟨.bool, r⟩)] := by
 refine con_ (ps := [0, 2]) (res := [(2, none)]) ?_ Try.func115 Try.ntmps115
 refine go_ ?_
 (repeat (first | refine fg_ ?_ | refine pg_ ?_ | refine qg_ ?_ | refine an_ ?_ | refine ip_ ?_ | refine in_ ?_))
 refine ⟨_, contains137_con hl (fun x _ => bad1_con), ?_⟩
 refine go_ ?_
 try refine an_ ?_
 injection h
end Go.Proofs.Ytalnaafmonmlmaa.Q
end
section
set_option linter.unusedVariables false
namespace Go.Proofs.Ytalnaafmonmlmaa.Q
open Go.RowKit Go.TT Go.Proofs.YtalnaafmonmlmaaW.PrintWords
theorem rs_factor_con {k : Nat} {a0 : Int} {r : List S107} (h : rs_factor.f k a0 = some r) : Con Try.prog 116 [⟨.int .i64, a0⟩] [(false, ⟨.sl 107 (.pr (.int .i64) (.pr (.int .i64) (.un))), (List.map (fun s : S107 => (s.f0, (s.f1, ()))) r)⟩)] := by
 refine ⟨⟨_, Try.func116, by kernel_rfl, by kernel_rfl⟩, fun w S vals hS hA => ?_⟩
 obtain ⟨v, rfl⟩ : ∃ v, vals = [v] := by
  match vals, hA with
  | [v], _ => exact ⟨v, rfl⟩
  | [], h => exact h.elim
  | _ :: _ :: _, h => exact h.2.elim
 have hv : v = .int .i64 a0 := Vs_int.1 hA.1
 subst hv
 refine (rs_factor.calls k a0 r w h).mono ?_
 rintro e w' ⟨v0, rfl, ⟨_, inner, ho, hr⟩, hb⟩
 obtain ⟨A, c, e1, e2, e3⟩ := own_row ho
 refine ⟨[v0], rfl, hb, fun b => S b ∨ (v0.ownBlock = some b), fun b hb' hs => ?_, fun b hs => ?_, ?_, trivial⟩
 ·rcases hs with hs | hs
  ·exact hs
  ·have := own_base ho b hs; omega
 ·rcases hs with hs | hs
  ·exact Nat.lt_of_lt_of_le (hS b hs) hb.size
  ·exact own_lt ho b hs
 ·have hfl : ∀ (l : List S107) (cs : List Value), cs.length = l.length * 2 → (∀ (j : Nat) (p : S107), l[j]? = some p → (cs.drop (j * 2)).take 2 = [.int .i64 p.f0, .int .i64 p.f1]) →
    Fl (Cs w' (fun b => S b ∨ v0.ownBlock = some b) (.pr (.int .i64) (.pr (.int .i64) (.un)))) (l.map fun s => (s.f0, (s.f1, ()))) cs := by
   intro l
   induction l with
   | nil => intro cs hl _; exact List.eq_nil_of_length_eq_zero (by simpa using hl)
   | cons x l ih =>
    intro cs hl hc
    have h0 := hc 0 x rfl
    rw [Nat.zero_mul, List.drop_zero] at h0
    refine ⟨[.int .i64 x.f0, .int .i64 x.f1], cs.drop 2, ?_, ⟨[_], _, rfl, rfl, ⟨[_], _, rfl, rfl, rfl⟩⟩, ih _ ?_ ?_⟩
    ·rw [← h0, List.take_append_drop]
    ·rw [List.length_drop, hl, List.length_cons]; omega
    ·intro j p hj
     have := hc (j + 1) p (by simpa using hj)
     rw [List.drop_drop]
     rw [show 2 + j * 2 = (j + 1) * 2 by omega]; exact this
  refine Vs_sl.2 ⟨A, c, inner, by rw [e1, List.length_map], by rw [List.length_map]; exact e2, hfl r inner hr.1 (fun j p hj => k107_openM (hr.2 j p hj)), ?_⟩
  rcases e3 with ⟨_, q, _⟩ | ⟨g, rfl, q⟩
  ·exact .inl (by rw [List.eq_nil_of_length_eq_zero q]; rfl)
  ·exact .inr ⟨_, rfl, .inr (by rw [e1]; rfl), q⟩
end Go.Proofs.Ytalnaafmonmlmaa.Q
end
section
set_option linter.unusedVariables false
set_option maxRecDepth 100000
set_option maxHeartbeats 8000000
namespace Go.Proofs.Ytalnaafmonmlmaa.Q
open Go.RowKit Go.TT Go.Proofs.YtalnaafmonmlmaaW.PrintWords
theorem rs_prime_con {k : Nat} {a0 : Int} {r : Bool} (h : rs_prime.f k a0 = some r) : Con Try.prog 118 [⟨.int .i64, a0⟩] [(false, ⟨.bool, r⟩)] := by
 refine con_ (ps := [0, 2, 3]) (res := [(2, none)]) ?_ Try.func118 Try.ntmps118
 refine go_ ?_
 unfold rs_prime.f at h
 replace h := hs_ h
 repeat' (first | split at h | (refine bnf h fun t e h => ?_; (repeat (first | refine fg_ ?_ | refine pg_ ?_ | refine qg_ ?_ | refine an_ ?_ | refine ip_ ?_ | refine in_ ?_)); refine ⟨_, (by first | exact rs_factor_con e), ?_⟩; refine go_ ?_) | (refine bnf h fun t e h => ?_; (repeat (first | refine fg_ ?_ | refine pg_ ?_ | refine qg_ ?_ | refine an_ ?_ | refine ip_ ?_ | refine in_ ?_ | (refine ⟨_, (by first | exact rs_factor_con ‹_›), ?_⟩; refine go_ ?_))); refine ⟨_, (by first | exact rs_factor_con e), ?_⟩; refine go_ ?_) | fail)
 all_goals (first | (cases h <;> (repeat (first | refine fg_ ?_ | refine pg_ ?_ | refine qg_ ?_ | refine an_ ?_ | refine ip_ ?_ | refine in_ ?_ | (refine ⟨_, (by first | exact rs_factor_con ‹_›), ?_⟩; refine go_ ?_))) <;> (first | done | rfl | trivial | (simp; done))))
theorem rs_IsPrime_con {k : Nat} {a0 : Int} {r1 : Bool} {r2 : Int} (h : rs_IsPrime.f k a0 = some (r1, r2)) : Con Try.prog 104 [⟨.int .i64, a0⟩] [(false, ⟨.bool, r1⟩), (false, ⟨.int .i64, r2⟩)] := by
 refine con_ (ps := [0, 2, 3, 6]) (res := [(2, none), (3, none)]) ?_ Try.func104 Try.ntmps104
 refine go_ ?_
 unfold rs_IsPrime.f at h
 replace h := hs_ h
 repeat' (first | split at h | (refine bnf h fun t e h => ?_; (repeat (first | refine fg_ ?_ | refine pg_ ?_ | refine qg_ ?_ | refine an_ ?_ | refine ip_ ?_ | refine in_ ?_)); refine ⟨_, (by first | exact rs_bad_con e | exact rs_prime_con e), ?_⟩; refine go_ ?_) | (refine bnf h fun t e h => ?_; (repeat (first | refine fg_ ?_ | refine pg_ ?_ | refine qg_ ?_ | refine an_ ?_ | refine ip_ ?_ | refine in_ ?_ | (refine ⟨_, (by first | exact rs_bad_con ‹_› | exact rs_prime_con ‹_›), ?_⟩; refine go_ ?_))); refine ⟨_, (by first | exact rs_bad_con e | exact rs_prime_con e), ?_⟩; refine go_ ?_) | fail)
 all_goals (first | (cases h <;> (repeat (first | refine fg_ ?_ | refine pg_ ?_ | refine qg_ ?_ | refine an_ ?_ | refine ip_ ?_ | refine in_ ?_ | (refine ⟨_, (by first | exact rs_bad_con ‹_› | exact rs_prime_con ‹_›), ?_⟩; refine go_ ?_))) <;> (first | done | rfl | trivial | (simp; done))))
theorem pm_prime_con {k : Nat} {a0 : Int} {r : Int} (h : pm_prime.f k a0 = some r) : Con Try.prog 80 [⟨.int .i64, a0⟩] [(false, ⟨.int .i64, r⟩)] := by
 refine con_ (ps := [0, 2, 3, 4, 10, 21]) (res := [(2, none)]) ?_ Try.func80 Try.ntmps80
 refine go_ ?_
 unfold pm_prime.f at h
 replace h := hs_ h
 repeat' (first | split at h | (refine bnf h fun t e h => ?_; (repeat (first | refine fg_ ?_ | refine pg_ ?_ | refine qg_ ?_ | refine an_ ?_ | refine ip_ ?_ | refine in_ ?_)); refine ⟨_, (by first | exact rs_IsPrime_con e), ?_⟩; refine go_ ?_) | (refine bnf h fun t e h => ?_; (repeat (first | refine fg_ ?_ | refine pg_ ?_ | refine qg_ ?_ | refine an_ ?_ | refine ip_ ?_ | refine in_ ?_ | (refine ⟨_, (by first | exact rs_IsPrime_con ‹_›), ?_⟩; refine go_ ?_))); refine ⟨_, (by first | exact rs_IsPrime_con e), ?_⟩; refine go_ ?_) | (rcases k with _ | k; (· cases h); unfold pm_prime.j0 at h; replace h := hs_ h) | fail)
 all_goals (first | (cases h <;> (repeat (first | refine fg_ ?_ | refine pg_ ?_ | refine qg_ ?_ | refine an_ ?_ | refine ip_ ?_ | refine in_ ?_ | (refine ⟨_, (by first | exact rs_IsPrime_con ‹_›), ?_⟩; refine go_ ?_))) <;> (first | done | rfl | trivial | (simp; done))))
theorem badC_con {p x : Int} : Con Try.prog 82 [⟨.int .i64, x⟩, ⟨.rf (.int .i64), p⟩] [(false, ⟨.bool, badC p x⟩)] := by
 refine con_ (ps := [0, 1, 3]) (res := [(3, none)]) ?_ Try.func82 Try.ntmps82
 refine go_ ?_
 have e : badC p x = (decide (x < 0) || decide (p ≤ x)) := rfl
 by_cases h : x < 0
 ·rw [decide_eq_true h, Bool.true_or] at e
  (repeat (first | refine fg_ ?_ | refine pg_ ?_ | refine qg_ ?_ | refine an_ ?_ | refine ip_ ?_ | refine in_ ?_))
  all_goals (first | exact e.symm | (simp [e, h]; done))
 ·rw [decide_eq_false h, Bool.false_or] at e
  (repeat (first | refine fg_ ?_ | refine pg_ ?_ | refine qg_ ?_ | refine an_ ?_ | refine ip_ ?_ | refine in_ ?_))
  all_goals (first | exact e.symm | (simp [e, h]; done))
theorem pm_Check_con {k : Nat} {a0 : Int} {l1 : List Int} {r : Int} (h : pm_Check.f k a0 l1 = some r) : Con Try.prog 45 [⟨.int .i64, a0⟩, ⟨.sl 3 (.int .i64), l1⟩] [(false, ⟨.int .i64, r⟩)] := by
 refine con_ (ps := [0, 1, 2, 4, 5, 9, 13, 30]) (res := [(4, none)]) ?_ Try.func45 Try.ntmps45
 refine go_ ?_
 unfold pm_Check.f at h
 refine bnf h fun t e h => ?_
 (repeat (first | refine fg_ ?_ | refine pg_ ?_ | refine qg_ ?_ | refine an_ ?_ | refine ip_ ?_ | refine in_ ?_))
 refine ⟨_, pm_prime_con e, ?_⟩
 refine go_ ?_
 by_cases ht : t = 0
 ·rw [if_pos ht] at h
  injection h with h
  unfold pm_Check.g at h
  by_cases h1 : l1.length > 65
  ·rw [if_pos h1] at h
   (repeat (first | refine fg_ ?_ | refine pg_ ?_ | refine qg_ ?_ | refine an_ ?_ | refine ip_ ?_ | refine in_ ?_))
   all_goals (first | exact h | exact h.symm | (simp [h]; done))
  ·rw [if_neg h1] at h
   (repeat (first | refine fg_ ?_ | refine pg_ ?_ | refine qg_ ?_ | refine an_ ?_ | refine ip_ ?_ | refine in_ ?_))
   refine ⟨_, contains108_con (by omega) (fun x _ => badC_con), ?_⟩
   refine go_ ?_
   by_cases h2 : l1.any (badC a0) = true
   ·rw [if_pos h2] at h
    (repeat (first | refine fg_ ?_ | refine pg_ ?_ | refine qg_ ?_ | refine an_ ?_ | refine ip_ ?_ | refine in_ ?_))
    all_goals (first | exact h | exact h.symm | (simp [h]; done))
   ·rw [if_neg h2] at h
    by_cases h3 : (l1.length : Int) > 0
    ·rw [if_pos h3] at h
     have hw : wrap64 ((l1.length : Int) - 1) = (l1.length : Int) - 1 := by unfold wrap64; omega
     have hw1 : 0 ≤ wrap64 ((l1.length : Int) - 1) := by omega
     have hw2 : wrap64 ((l1.length : Int) - 1) < (l1.length : Int) := by omega
     by_cases h4 : rd l1 (wrap64 ((l1.length : Int) - 1)) = 0
     ·rw [if_pos h4] at h
      (repeat (first | refine fg_ ?_ | refine pg_ ?_ | refine qg_ ?_ | refine an_ ?_ | refine ip_ ?_ | refine in_ ?_))
      all_goals (first | exact h | exact h.symm | (simp [h]; done))
     ·rw [if_neg h4] at h
      (repeat (first | refine fg_ ?_ | refine pg_ ?_ | refine qg_ ?_ | refine an_ ?_ | refine ip_ ?_ | refine in_ ?_))
      all_goals (first | exact h | exact h.symm | (simp [h]; done))
    ·rw [if_neg h3] at h
     (repeat (first | refine fg_ ?_ | refine pg_ ?_ | refine qg_ ?_ | refine an_ ?_ | refine ip_ ?_ | refine in_ ?_))
     all_goals (first | exact h | exact h.symm | (simp [h]; done))
 ·rw [if_neg ht] at h
  injection h with h
  (repeat (first | refine fg_ ?_ | refine pg_ ?_ | refine qg_ ?_ | refine an_ ?_ | refine ip_ ?_ | refine in_ ?_))
  all_goals (first | exact h | exact h.symm | (simp [h]; done))
theorem fp_Trim_con {k : Nat} {l0 : List Int} {r : List Int} (h : fp_Trim.f k l0 = some r) : Con Try.prog 92 [⟨.sl 3 (.int .i64), l0⟩] [(false, ⟨.sl 3 (.int .i64), r⟩)] := by
 refine con_ (ps := [0, 2, 3, 15]) (res := [(2, none)]) ?_ Try.func92 Try.ntmps92
 refine go_ ?_
 unfold fp_Trim.f at h
 replace h := hs_ h
 repeat' (first | split at h | fail)
 all_goals first
  | (cases h <;> (repeat (first | refine fg_ ?_ | refine pg_ ?_ | refine qg_ ?_ | refine an_ ?_ | refine ip_ ?_ | refine in_ ?_)) <;> (first | done | rfl | trivial | (simp; done)))
  | (
    (with_reducible have h : fp_Trim.l0 _ _ _ = some r := h)
    repeat (first | refine fg_ ?_ | refine pg_ ?_ | refine qg_ ?_ | refine an_ ?_ | refine ip_ ?_ | refine in_ ?_)
    refine lp [(0, .row 3 (.int .i64)), (3, .keep)] fun X0 hX0 => ?_
    refine go_ ?_
    have key : ∀ k x0 x3, fp_Trim.l0 k x0 x3 = some r → X0 ⟨lkp .bot [(3, .ro (.int .i64) x3), (0, .ro (.sl 3 (.int .i64)) x0)], lkp none [], 0⟩ := by
     refine sind fun k ih0 x0 x3 h => hX0 _ ?_
     clear hX0
     rcases k with _ | k
     ·cases h
     unfold fp_Trim.l0 at h
     replace h := hs_ h
     refine go_ ?_
     repeat' (first | split at h | fail)
     all_goals (first | ((repeat (first | refine fg_ ?_ | refine pg_ ?_ | refine qg_ ?_ | refine an_ ?_ | refine ip_ ?_ | refine in_ ?_)); exact ih0 _ (by omega) _ _ h) | (cases h <;> (repeat (first | refine fg_ ?_ | refine pg_ ?_ | refine qg_ ?_ | refine an_ ?_ | refine ip_ ?_ | refine in_ ?_)) <;> (first | done | rfl | trivial | (simp; done))))
    exact key _ _ _ h)
theorem fp_at_con {l0 : List Int} {a1 : Int} {r : Int} (h : fp_at.f l0 a1 = some r) : Con Try.prog 95 [⟨.sl 3 (.int .i64), l0⟩, ⟨.int .i64, a1⟩] [(false, ⟨.int .i64, r⟩)] := by
 refine con_ (ps := [0, 1, 4, 8]) (res := [(4, none)]) ?_ Try.func95 Try.ntmps95
 refine go_ ?_
 unfold fp_at.f at h
 replace h := hs_ h
 repeat' (first | split at h | fail)
 all_goals (first | (cases h <;> (repeat (first | refine fg_ ?_ | refine pg_ ?_ | refine qg_ ?_ | refine an_ ?_ | refine ip_ ?_ | refine in_ ?_)) <;> (first | done | rfl | trivial | (simp; done))))
theorem fp_Sub_con {k : Nat} {a0 : Int} {l1 : List Int} {l2 : List Int} {r : List Int} (h : fp_Sub.f k a0 l1 l2 = some r) : Con Try.prog 61 [⟨.int .i64, a0⟩, ⟨.sl 3 (.int .i64), l1⟩, ⟨.sl 3 (.int .i64), l2⟩] [(false, ⟨.sl 3 (.int .i64), r⟩)] := by
 refine con_ (ps := [0, 1, 2, 6, 7, 8, 16, 17, 18]) (res := [(6, none)]) ?_ Try.func61 Try.ntmps61
 refine go_ ?_
 unfold fp_Sub.f at h
 replace h := hs_ h
 repeat' (first | split at h | (refine bnf h fun t e h => ?_; (repeat (first | refine fg_ ?_ | refine pg_ ?_ | refine qg_ ?_ | refine an_ ?_ | refine ip_ ?_ | refine in_ ?_)); refine ⟨_, (by first | exact fp_at_con e | exact fp_Trim_con e), ?_⟩; refine go_ ?_) | (refine bnf h fun t e h => ?_; (repeat (first | refine fg_ ?_ | refine pg_ ?_ | refine qg_ ?_ | refine an_ ?_ | refine ip_ ?_ | refine in_ ?_ | (refine ⟨_, (by first | exact fp_at_con ‹_› | exact fp_Trim_con ‹_›), ?_⟩; refine go_ ?_))); refine ⟨_, (by first | exact fp_at_con e | exact fp_Trim_con e), ?_⟩; refine go_ ?_) | fail)
 all_goals first
  | (cases h <;> (repeat (first | refine fg_ ?_ | refine pg_ ?_ | refine qg_ ?_ | refine an_ ?_ | refine ip_ ?_ | refine in_ ?_ | (refine ⟨_, (by first | exact fp_at_con ‹_› | exact fp_Trim_con ‹_›), ?_⟩; refine go_ ?_))) <;> (first | done | rfl | trivial | (simp; done)))
  | (
    (with_reducible have h : fp_Sub.l0 _ _ _ _ _ _ _ = some r := h)
    repeat (first | refine fg_ ?_ | refine pg_ ?_ | refine qg_ ?_ | refine an_ ?_ | refine ip_ ?_ | refine in_ ?_ | (refine ⟨_, (by first | exact fp_at_con ‹_› | exact fp_Trim_con ‹_›), ?_⟩; refine go_ ?_))
    refine lp [(0, .keep), (1, .row 3 (.int .i64)), (2, .row 3 (.int .i64)), (7, .own 3 (.int .i64)), (16, .keep), (17, .keep)] fun X0 hX0 => ?_
    refine go_ ?_
    have key : ∀ k x0 x1 x2 x7 x16 x17, fp_Sub.l0 k x0 x1 x2 x7 x16 x17 = some r → X0 ⟨lkp .bot [(17, .ro (.int .i64) x17), (16, .ro (.int .i64) x16), (7, .own 14), (2, .ro (.sl 3 (.int .i64)) x2), (1, .ro (.sl 3 (.int .i64)) x1), (0, .ro (.int .i64) x0)], lkp none [(14, some ⟨3, .int .i64, x7, true⟩)], 0⟩ := by
     refine sind fun k ih0 x0 x1 x2 x7 x16 x17 h => hX0 _ ?_
     clear hX0
     rcases k with _ | k
     ·cases h
     unfold fp_Sub.l0 at h
     replace h := hs_ h
     refine go_ ?_
     repeat' (first | split at h | (refine bnf h fun t e h => ?_; (repeat (first | refine fg_ ?_ | refine pg_ ?_ | refine qg_ ?_ | refine an_ ?_ | refine ip_ ?_ | refine in_ ?_)); refine ⟨_, (by first | exact fp_at_con e | exact fp_Trim_con e), ?_⟩; refine go_ ?_) | (refine bnf h fun t e h => ?_; (repeat (first | refine fg_ ?_ | refine pg_ ?_ | refine qg_ ?_ | refine an_ ?_ | refine ip_ ?_ | refine in_ ?_ | (refine ⟨_, (by first | exact fp_at_con ‹_› | exact fp_Trim_con ‹_›), ?_⟩; refine go_ ?_))); refine ⟨_, (by first | exact fp_at_con e | exact fp_Trim_con e), ?_⟩; refine go_ ?_) | fail)
     all_goals (first | ((repeat (first | refine fg_ ?_ | refine pg_ ?_ | refine qg_ ?_ | refine an_ ?_ | refine ip_ ?_ | refine in_ ?_ | (refine ⟨_, (by first | exact fp_at_con ‹_› | exact fp_Trim_con ‹_›), ?_⟩; refine go_ ?_))); exact ih0 _ (by omega) _ _ _ _ _ _ h) | (cases h <;> (repeat (first | refine fg_ ?_ | refine pg_ ?_ | refine qg_ ?_ | refine an_ ?_ | refine ip_ ?_ | refine in_ ?_ | (refine ⟨_, (by first | exact fp_at_con ‹_› | exact fp_Trim_con ‹_›), ?_⟩; refine go_ ?_))) <;> (first | done | rfl | trivial | (simp; done))))
    exact key _ _ _ _ _ _ _ h)
theorem fp_Mod_con {a0 : Int} {a1 : Int} {r : Int} (h : fp_Mod.f a0 a1 = some r) : Con Try.prog 119 [⟨.int .i64, a0⟩, ⟨.int .i64, a1⟩] [(false, ⟨.int .i64, r⟩)] := by
 refine con_ (ps := [0, 1, 4, 9]) (res := [(4, none)]) ?_ Try.func119 Try.ntmps119
 refine go_ ?_
 unfold fp_Mod.f at h
 replace h := hs_ h
 repeat' (first | split at h | fail)
 all_goals (first | (cases h <;> (repeat (first | refine fg_ ?_ | refine pg_ ?_ | refine qg_ ?_ | refine an_ ?_ | refine ip_ ?_ | refine in_ ?_)) <;> (first | done | rfl | trivial | (simp; done))))
theorem fp_Inv_con {k : Nat} {a0 : Int} {a1 : Int} {r : Int} (h : fp_Inv.f k a0 a1 = some r) : Con Try.prog 114 [⟨.int .i64, a0⟩, ⟨.int .i64, a1⟩] [(false, ⟨.int .i64, r⟩)] := by
 refine con_ (ps := [0, 1, 4, 5, 6, 7, 8, 9, 13]) (res := [(4, none)]) ?_ Try.func114 Try.ntmps114
 refine go_ ?_
 unfold fp_Inv.f at h
 replace h := hs_ h
 repeat' (first | split at h | (refine bnf h fun t e h => ?_; (repeat (first | refine fg_ ?_ | refine pg_ ?_ | refine qg_ ?_ | refine an_ ?_ | refine ip_ ?_ | refine in_ ?_)); refine ⟨_, (by first | exact fp_Mod_con e), ?_⟩; refine go_ ?_) | (refine bnf h fun t e h => ?_; (repeat (first | refine fg_ ?_ | refine pg_ ?_ | refine qg_ ?_ | refine an_ ?_ | refine ip_ ?_ | refine in_ ?_ | (refine ⟨_, (by first | exact fp_Mod_con ‹_›), ?_⟩; refine go_ ?_))); refine ⟨_, (by first | exact fp_Mod_con e), ?_⟩; refine go_ ?_) | fail)
 all_goals first
  | (cases h <;> (repeat (first | refine fg_ ?_ | refine pg_ ?_ | refine qg_ ?_ | refine an_ ?_ | refine ip_ ?_ | refine in_ ?_ | (refine ⟨_, (by first | exact fp_Mod_con ‹_›), ?_⟩; refine go_ ?_))) <;> (first | done | rfl | trivial | (simp; done)))
  | (
    (with_reducible have h : fp_Inv.l0 _ _ _ _ _ _ = some r := h)
    repeat (first | refine fg_ ?_ | refine pg_ ?_ | refine qg_ ?_ | refine an_ ?_ | refine ip_ ?_ | refine in_ ?_ | (refine ⟨_, (by first | exact fp_Mod_con ‹_›), ?_⟩; refine go_ ?_))
    refine lp [(0, .keep), (5, .keep), (6, .keep), (7, .keep), (8, .keep)] fun X0 hX0 => ?_
    refine go_ ?_
    have key : ∀ k x0 x5 x6 x7 x8, fp_Inv.l0 k x0 x5 x6 x7 x8 = some r → X0 ⟨lkp .bot [(8, .ro (.int .i64) x8), (7, .ro (.int .i64) x7), (6, .ro (.int .i64) x6), (5, .ro (.int .i64) x5), (0, .ro (.int .i64) x0)], lkp none [], 0⟩ := by
     refine sind fun k ih0 x0 x5 x6 x7 x8 h => hX0 _ ?_
     clear hX0
     rcases k with _ | k
     ·cases h
     unfold fp_Inv.l0 at h
     replace h := hs_ h
     refine go_ ?_
     repeat' (first | split at h | (refine bnf h fun t e h => ?_; (repeat (first | refine fg_ ?_ | refine pg_ ?_ | refine qg_ ?_ | refine an_ ?_ | refine ip_ ?_ | refine in_ ?_)); refine ⟨_, (by first | exact fp_Mod_con e), ?_⟩; refine go_ ?_) | (refine bnf h fun t e h => ?_; (repeat (first | refine fg_ ?_ | refine pg_ ?_ | refine qg_ ?_ | refine an_ ?_ | refine ip_ ?_ | refine in_ ?_ | (refine ⟨_, (by first | exact fp_Mod_con ‹_›), ?_⟩; refine go_ ?_))); refine ⟨_, (by first | exact fp_Mod_con e), ?_⟩; refine go_ ?_) | fail)
     all_goals (first | ((repeat (first | refine fg_ ?_ | refine pg_ ?_ | refine qg_ ?_ | refine an_ ?_ | refine ip_ ?_ | refine in_ ?_ | (refine ⟨_, (by first | exact fp_Mod_con ‹_›), ?_⟩; refine go_ ?_))); exact ih0 _ (by omega) _ _ _ _ _ h) | (cases h <;> (repeat (first | refine fg_ ?_ | refine pg_ ?_ | refine qg_ ?_ | refine an_ ?_ | refine ip_ ?_ | refine in_ ?_ | (refine ⟨_, (by first | exact fp_Mod_con ‹_›), ?_⟩; refine go_ ?_))) <;> (first | done | rfl | trivial | (simp; done))))
    exact key _ _ _ _ _ _ h)
theorem fp_DivMod_con {k : Nat} {a0 : Int} {l1 : List Int} {l2 : List Int} {r1 : List Int} {r2 : List Int} (h : fp_DivMod.f k a0 l1 l2 = some (r1, r2)) : Con Try.prog 106 [⟨.int .i64, a0⟩, ⟨.sl 3 (.int .i64), l1⟩, ⟨.sl 3 (.int .i64), l2⟩] [(false, ⟨.sl 3 (.int .i64), r1⟩), (false, ⟨.sl 3 (.int .i64), r2⟩)] := by
 refine con_ (ps := [0, 1, 2, 6, 7, 8, 9, 10, 11, 12, 13, 14, 15, 24, 44, 62, 63, 64, 65]) (res := [(6, none), (7, none)]) ?_ Try.func106 Try.ntmps106
 refine go_ ?_
 unfold fp_DivMod.f at h
 replace h := hs_ h
 repeat' (first | split at h | (refine bnf h fun t e h => ?_; (repeat (first | (refine fr_ [.tmp 8, .tmp 10] 87 (by rfl) ?_; refine go_ ?_) | refine fg_ ?_ | refine pg_ ?_ | refine qg_ ?_ | refine an_ ?_ | refine ip_ ?_ | refine in_ ?_)); refine ⟨_, (by first | exact fp_Inv_con e | exact fp_Mod_con e | exact fp_Trim_con e), ?_⟩; refine go_ ?_) | (refine bnf h fun t e h => ?_; (repeat (first | (refine fr_ [.tmp 8, .tmp 10] 87 (by rfl) ?_; refine go_ ?_) | refine fg_ ?_ | refine pg_ ?_ | refine qg_ ?_ | refine an_ ?_ | refine ip_ ?_ | refine in_ ?_ | (refine ⟨_, (by first | exact fp_Inv_con ‹_› | exact fp_Mod_con ‹_› | exact fp_Trim_con ‹_›), ?_⟩; refine go_ ?_))); refine ⟨_, (by first | exact fp_Inv_con e | exact fp_Mod_con e | exact fp_Trim_con e), ?_⟩; refine go_ ?_) | fail)
 all_goals first
  | (cases h <;> (repeat (first | (refine fr_ [.tmp 8, .tmp 10] 87 (by rfl) ?_; refine go_ ?_) | refine fg_ ?_ | refine pg_ ?_ | refine qg_ ?_ | refine an_ ?_ | refine ip_ ?_ | refine in_ ?_ | (refine ⟨_, (by first | exact fp_Inv_con ‹_› | exact fp_Mod_con ‹_› | exact fp_Trim_con ‹_›), ?_⟩; refine go_ ?_))) <;> (first | done | rfl | trivial | (simp; done)))
  | (
    (with_reducible have h : fp_DivMod.l0 _ _ _ _ _ _ _ _ = some (r1, r2) := h)
    repeat (first | (refine fr_ [.tmp 8, .tmp 10] 87 (by rfl) ?_; refine go_ ?_) | refine fg_ ?_ | refine pg_ ?_ | refine qg_ ?_ | refine an_ ?_ | refine ip_ ?_ | refine in_ ?_ | (refine ⟨_, (by first | exact fp_Inv_con ‹_› | exact fp_Mod_con ‹_› | exact fp_Trim_con ‹_›), ?_⟩; refine go_ ?_))
    refine lp [(0, .keep), (2, .row 3 (.int .i64)), (8, .own 3 (.int .i64)), (9, .keep), (10, .own 3 (.int .i64)), (11, .keep), (12, .keep)] fun X0 hX0 => ?_
    refine go_ ?_
    have key : ∀ k x0 x2 x8 x9 x10 x11 x12, fp_DivMod.l0 k x0 x2 x8 x9 x10 x11 x12 = some (r1, r2) → X0 ⟨lkp .bot [(12, .ro (.int .i64) x12), (11, .ro (.int .i64) x11), (10, .own 20), (9, .ro (.int .i64) x9), (8, .own 16), (2, .ro (.sl 3 (.int .i64)) x2), (0, .ro (.int .i64) x0)], lkp none [(20, some ⟨3, .int .i64, x10, true⟩), (16, some ⟨3, .int .i64, x8, true⟩)], 0⟩ := by
     refine sind fun k ih0 x0 x2 x8 x9 x10 x11 x12 h => hX0 _ ?_
     clear hX0
     rcases k with _ | k
     ·cases h
     unfold fp_DivMod.l0 at h
     replace h := hs_ h
     refine go_ ?_
     repeat' (first | split at h | (refine bnf h fun t e h => ?_; (repeat (first | (refine fr_ [.tmp 8, .tmp 10] 87 (by rfl) ?_; refine go_ ?_) | refine fg_ ?_ | refine pg_ ?_ | refine qg_ ?_ | refine an_ ?_ | refine ip_ ?_ | refine in_ ?_)); refine ⟨_, (by first | exact fp_Inv_con e | exact fp_Mod_con e | exact fp_Trim_con e), ?_⟩; refine go_ ?_) | (refine bnf h fun t e h => ?_; (repeat (first | (refine fr_ [.tmp 8, .tmp 10] 87 (by rfl) ?_; refine go_ ?_) | refine fg_ ?_ | refine pg_ ?_ | refine qg_ ?_ | refine an_ ?_ | refine ip_ ?_ | refine in_ ?_ | (refine ⟨_, (by first | exact fp_Inv_con ‹_› | exact fp_Mod_con ‹_› | exact fp_Trim_con ‹_›), ?_⟩; refine go_ ?_))); refine ⟨_, (by first | exact fp_Inv_con e | exact fp_Mod_con e | exact fp_Trim_con e), ?_⟩; refine go_ ?_) | fail)
     all_goals first
      | ((repeat (first | (refine fr_ [.tmp 8, .tmp 10] 87 (by rfl) ?_; refine go_ ?_) | refine fg_ ?_ | refine pg_ ?_ | refine qg_ ?_ | refine an_ ?_ | refine ip_ ?_ | refine in_ ?_ | (refine ⟨_, (by first | exact fp_Inv_con ‹_› | exact fp_Mod_con ‹_› | exact fp_Trim_con ‹_›), ?_⟩; refine go_ ?_))); exact ih0 _ (by omega) _ _ _ _ _ _ _ h)
      | (cases h <;> (repeat (first | (refine fr_ [.tmp 8, .tmp 10] 87 (by rfl) ?_; refine go_ ?_) | refine fg_ ?_ | refine pg_ ?_ | refine qg_ ?_ | refine an_ ?_ | refine ip_ ?_ | refine in_ ?_ | (refine ⟨_, (by first | exact fp_Inv_con ‹_› | exact fp_Mod_con ‹_› | exact fp_Trim_con ‹_›), ?_⟩; refine go_ ?_))) <;> (first | done | rfl | trivial | (simp; done)))
      | (
       (with_reducible have h : fp_DivMod.l1 _ _ _ _ _ _ _ _ _ _ _ _ = some (r1, r2) := h)
       repeat (first | (refine fr_ [.tmp 8, .tmp 10] 87 (by rfl) ?_; refine go_ ?_) | refine fg_ ?_ | refine pg_ ?_ | refine qg_ ?_ | refine an_ ?_ | refine ip_ ?_ | refine in_ ?_ | (refine ⟨_, (by first | exact fp_Inv_con ‹_› | exact fp_Mod_con ‹_› | exact fp_Trim_con ‹_›), ?_⟩; refine go_ ?_))
       refine lp [(0, .keep), (2, .row 3 (.int .i64)), (8, .own 3 (.int .i64)), (9, .keep), (10, .own 3 (.int .i64)), (11, .keep), (12, .keep), (13, .keep), (62, .row 3 (.int .i64)), (63, .keep), (64, .keep)] fun X1 hX1 => ?_
       refine go_ ?_
       have key : ∀ j, j ≤ k → ∀ x0 x2 x8 x9 x10 x11 x12 x13 x62 x63 x64, fp_DivMod.l1 j x0 x2 x8 x9 x10 x11 x12 x13 x62 x63 x64 = some (r1, r2) → X1 ⟨lkp .bot [(64, .ro (.int .i64) x64), (63, .ro (.int .i64) x63), (62, .ro (.sl 3 (.int .i64)) x62), (13, .ro (.int .i64) x13), (12, .ro (.int .i64) x12), (11, .ro (.int .i64) x11), (10, .own 20), (9, .ro (.int .i64) x9), (8, .own 16), (2, .ro (.sl 3 (.int .i64)) x2), (0, .ro (.int .i64) x0)], lkp none [(20, some ⟨3, .int .i64, x10, true⟩), (16, some ⟨3, .int .i64, x8, true⟩)], 0⟩ := by
        refine sinb fun k hk1 ih1 x0 x2 x8 x9 x10 x11 x12 x13 x62 x63 x64 h => hX1 _ ?_
        clear hX1
        rcases k with _ | k
        ·cases h
        unfold fp_DivMod.l1 at h
        replace h := hs_ h
        refine go_ ?_
        repeat' (first | split at h | (refine bnf h fun t e h => ?_; (repeat (first | (refine fr_ [.tmp 8, .tmp 10] 87 (by rfl) ?_; refine go_ ?_) | refine fg_ ?_ | refine pg_ ?_ | refine qg_ ?_ | refine an_ ?_ | refine ip_ ?_ | refine in_ ?_)); refine ⟨_, (by first | exact fp_Inv_con e | exact fp_Mod_con e | exact fp_Trim_con e), ?_⟩; refine go_ ?_) | (refine bnf h fun t e h => ?_; (repeat (first | (refine fr_ [.tmp 8, .tmp 10] 87 (by rfl) ?_; refine go_ ?_) | refine fg_ ?_ | refine pg_ ?_ | refine qg_ ?_ | refine an_ ?_ | refine ip_ ?_ | refine in_ ?_ | (refine ⟨_, (by first | exact fp_Inv_con ‹_› | exact fp_Mod_con ‹_› | exact fp_Trim_con ‹_›), ?_⟩; refine go_ ?_))); refine ⟨_, (by first | exact fp_Inv_con e | exact fp_Mod_con e | exact fp_Trim_con e), ?_⟩; refine go_ ?_) | fail)
        all_goals (first | ((repeat (first | (refine fr_ [.tmp 8, .tmp 10] 87 (by rfl) ?_; refine go_ ?_) | refine fg_ ?_ | refine pg_ ?_ | refine qg_ ?_ | refine an_ ?_ | refine ip_ ?_ | refine in_ ?_ | (refine ⟨_, (by first | exact fp_Inv_con ‹_› | exact fp_Mod_con ‹_› | exact fp_Trim_con ‹_›), ?_⟩; refine go_ ?_))); exact ih1 _ (by omega) _ _ _ _ _ _ _ _ _ _ _ h) | ((repeat (first | (refine fr_ [.tmp 8, .tmp 10] 87 (by rfl) ?_; refine go_ ?_) | refine fg_ ?_ | refine pg_ ?_ | refine qg_ ?_ | refine an_ ?_ | refine ip_ ?_ | refine in_ ?_ | (refine ⟨_, (by first | exact fp_Inv_con ‹_› | exact fp_Mod_con ‹_› | exact fp_Trim_con ‹_›), ?_⟩; refine go_ ?_))); exact ih0 _ (by omega) _ _ _ _ _ _ _ h) | (cases h <;> (repeat (first | (refine fr_ [.tmp 8, .tmp 10] 87 (by rfl) ?_; refine go_ ?_) | refine fg_ ?_ | refine pg_ ?_ | refine qg_ ?_ | refine an_ ?_ | refine ip_ ?_ | refine in_ ?_ | (refine ⟨_, (by first | exact fp_Inv_con ‹_› | exact fp_Mod_con ‹_› | exact fp_Trim_con ‹_›), ?_⟩; refine go_ ?_))) <;> (first | done | rfl | trivial | (simp; done))))
       exact key _ (by omega) _ _ _ _ _ _ _ _ _ _ _ h)
    exact key _ _ _ _ _ _ _ _ h)
theorem fp_Rem_con {k : Nat} {a0 : Int} {l1 : List Int} {l2 : List Int} {r : List Int} (h : fp_Rem.f k a0 l1 l2 = some r) : Con Try.prog 83 [⟨.int .i64, a0⟩, ⟨.sl 3 (.int .i64), l1⟩, ⟨.sl 3 (.int .i64), l2⟩] [(false, ⟨.sl 3 (.int .i64), r⟩)] := by
 refine con_ (ps := [0, 1, 2, 6, 8]) (res := [(6, none)]) ?_ Try.func83 Try.ntmps83
 refine go_ ?_
 unfold fp_Rem.f at h
 replace h := hs_ h
 repeat' (first | split at h | (refine bnf h fun t e h => ?_; (repeat (first | refine fg_ ?_ | refine pg_ ?_ | refine qg_ ?_ | refine an_ ?_ | refine ip_ ?_ | refine in_ ?_)); refine ⟨_, (by first | exact fp_DivMod_con e), ?_⟩; refine go_ ?_) | (refine bnf h fun t e h => ?_; (repeat (first | refine fg_ ?_ | refine pg_ ?_ | refine qg_ ?_ | refine an_ ?_ | refine ip_ ?_ | refine in_ ?_ | (refine ⟨_, (by first | exact fp_DivMod_con ‹_›), ?_⟩; refine go_ ?_))); refine ⟨_, (by first | exact fp_DivMod_con e), ?_⟩; refine go_ ?_) | fail)
 all_goals (first | (cases h <;> (repeat (first | refine fg_ ?_ | refine pg_ ?_ | refine qg_ ?_ | refine an_ ?_ | refine ip_ ?_ | refine in_ ?_ | (refine ⟨_, (by first | exact fp_DivMod_con ‹_›), ?_⟩; refine go_ ?_))) <;> (first | done | rfl | trivial | (simp; done))))
theorem fp_Mul_con {k : Nat} {a0 : Int} {l1 : List Int} {l2 : List Int} {r : List Int} (h : fp_Mul.f k a0 l1 l2 = some r) : Con Try.prog 112 [⟨.int .i64, a0⟩, ⟨.sl 3 (.int .i64), l1⟩, ⟨.sl 3 (.int .i64), l2⟩] [(false, ⟨.sl 3 (.int .i64), r⟩)] := by
 refine con_ (ps := [0, 1, 2, 6, 7, 8, 9, 10, 11, 19, 27, 28, 29, 30, 34, 35, 36, 37]) (res := [(6, none)]) ?_ Try.func112 Try.ntmps112
 refine go_ ?_
 unfold fp_Mul.f at h
 replace h := hs_ h
 repeat' (first | split at h | (refine bnf h fun t e h => ?_; (repeat (first | refine fg_ ?_ | refine pg_ ?_ | refine qg_ ?_ | refine an_ ?_ | refine ip_ ?_ | refine in_ ?_)); refine ⟨_, (by first | exact fp_Trim_con e), ?_⟩; refine go_ ?_) | (refine bnf h fun t e h => ?_; (repeat (first | refine fg_ ?_ | refine pg_ ?_ | refine qg_ ?_ | refine an_ ?_ | refine ip_ ?_ | refine in_ ?_ | (refine ⟨_, (by first | exact fp_Trim_con ‹_›), ?_⟩; refine go_ ?_))); refine ⟨_, (by first | exact fp_Trim_con e), ?_⟩; refine go_ ?_) | (rcases k with _ | k; (· cases h); unfold fp_Mul.j0 at h; replace h := hs_ h) | fail)
 all_goals first
  | (cases h <;> (repeat (first | refine fg_ ?_ | refine pg_ ?_ | refine qg_ ?_ | refine an_ ?_ | refine ip_ ?_ | refine in_ ?_ | (refine ⟨_, (by first | exact fp_Trim_con ‹_›), ?_⟩; refine go_ ?_))) <;> (first | done | rfl | trivial | (simp; done)))
  | (
    (with_reducible have h : fp_Mul.l0 _ _ _ _ _ _ _ = some r := h)
    repeat (first | refine fg_ ?_ | refine pg_ ?_ | refine qg_ ?_ | refine an_ ?_ | refine ip_ ?_ | refine in_ ?_ | (refine ⟨_, (by first | exact fp_Trim_con ‹_›), ?_⟩; refine go_ ?_))
    refine lp [(0, .keep), (2, .row 3 (.int .i64)), (7, .own 3 (.int .i64)), (27, .row 3 (.int .i64)), (28, .keep), (29, .keep)] fun X0 hX0 => ?_
    refine go_ ?_
    have key : ∀ k x0 x2 x7 x27 x28 x29, fp_Mul.l0 k x0 x2 x7 x27 x28 x29 = some r → X0 ⟨lkp .bot [(29, .ro (.int .i64) x29), (28, .ro (.int .i64) x28), (27, .ro (.sl 3 (.int .i64)) x27), (7, .own 14), (2, .ro (.sl 3 (.int .i64)) x2), (0, .ro (.int .i64) x0)], lkp none [(14, some ⟨3, .int .i64, x7, true⟩)], 0⟩ := by
     refine sind fun k ih0 x0 x2 x7 x27 x28 x29 h => hX0 _ ?_
     clear hX0
     rcases k with _ | k
     ·cases h
     unfold fp_Mul.l0 at h
     replace h := hs_ h
     refine go_ ?_
     repeat' (first | split at h | (refine bnf h fun t e h => ?_; (repeat (first | refine fg_ ?_ | refine pg_ ?_ | refine qg_ ?_ | refine an_ ?_ | refine ip_ ?_ | refine in_ ?_)); refine ⟨_, (by first | exact fp_Trim_con e), ?_⟩; refine go_ ?_) | (refine bnf h fun t e h => ?_; (repeat (first | refine fg_ ?_ | refine pg_ ?_ | refine qg_ ?_ | refine an_ ?_ | refine ip_ ?_ | refine in_ ?_ | (refine ⟨_, (by first | exact fp_Trim_con ‹_›), ?_⟩; refine go_ ?_))); refine ⟨_, (by first | exact fp_Trim_con e), ?_⟩; refine go_ ?_) | (rcases k with _ | k; (· cases h); unfold fp_Mul.j0 at h; replace h := hs_ h) | fail)
     all_goals first
      | ((repeat (first | refine fg_ ?_ | refine pg_ ?_ | refine qg_ ?_ | refine an_ ?_ | refine ip_ ?_ | refine in_ ?_ | (refine ⟨_, (by first | exact fp_Trim_con ‹_›), ?_⟩; refine go_ ?_))); exact ih0 _ (by omega) _ _ _ _ _ _ h)
      | (cases h <;> (repeat (first | refine fg_ ?_ | refine pg_ ?_ | refine qg_ ?_ | refine an_ ?_ | refine ip_ ?_ | refine in_ ?_ | (refine ⟨_, (by first | exact fp_Trim_con ‹_›), ?_⟩; refine go_ ?_))) <;> (first | done | rfl | trivial | (simp; done)))
      | (
       (with_reducible have h : fp_Mul.l1 _ _ _ _ _ _ _ _ _ _ _ _ = some r := h)
       repeat (first | refine fg_ ?_ | refine pg_ ?_ | refine qg_ ?_ | refine an_ ?_ | refine ip_ ?_ | refine in_ ?_ | (refine ⟨_, (by first | exact fp_Trim_con ‹_›), ?_⟩; refine go_ ?_))
       refine lp [(0, .keep), (2, .row 3 (.int .i64)), (7, .own 3 (.int .i64)), (8, .keep), (9, .keep), (27, .row 3 (.int .i64)), (28, .keep), (29, .keep), (34, .row 3 (.int .i64)), (35, .keep), (36, .keep)] fun X1 hX1 => ?_
       refine go_ ?_
       have key : ∀ j, j ≤ k → ∀ x0 x2 x7 x8 x9 x27 x28 x29 x34 x35 x36, fp_Mul.l1 j x0 x2 x7 x8 x9 x27 x28 x29 x34 x35 x36 = some r → X1 ⟨lkp .bot [(36, .ro (.int .i64) x36), (35, .ro (.int .i64) x35), (34, .ro (.sl 3 (.int .i64)) x34), (29, .ro (.int .i64) x29), (28, .ro (.int .i64) x28), (27, .ro (.sl 3 (.int .i64)) x27), (9, .ro (.int .i64) x9), (8, .ro (.int .i64) x8), (7, .own 14), (2, .ro (.sl 3 (.int .i64)) x2), (0, .ro (.int .i64) x0)], lkp none [(14, some ⟨3, .int .i64, x7, true⟩)], 0⟩ := by
        refine sinb fun k hk1 ih1 x0 x2 x7 x8 x9 x27 x28 x29 x34 x35 x36 h => hX1 _ ?_
        clear hX1
        rcases k with _ | k
        ·cases h
        unfold fp_Mul.l1 at h
        replace h := hs_ h
        refine go_ ?_
        repeat' (first | split at h | (refine bnf h fun t e h => ?_; (repeat (first | refine fg_ ?_ | refine pg_ ?_ | refine qg_ ?_ | refine an_ ?_ | refine ip_ ?_ | refine in_ ?_)); refine ⟨_, (by first | exact fp_Trim_con e), ?_⟩; refine go_ ?_) | (refine bnf h fun t e h => ?_; (repeat (first | refine fg_ ?_ | refine pg_ ?_ | refine qg_ ?_ | refine an_ ?_ | refine ip_ ?_ | refine in_ ?_ | (refine ⟨_, (by first | exact fp_Trim_con ‹_›), ?_⟩; refine go_ ?_))); refine ⟨_, (by first | exact fp_Trim_con e), ?_⟩; refine go_ ?_) | (rcases k with _ | k; (· cases h); unfold fp_Mul.j0 at h; replace h := hs_ h) | fail)
        all_goals (first | ((repeat (first | refine fg_ ?_ | refine pg_ ?_ | refine qg_ ?_ | refine an_ ?_ | refine ip_ ?_ | refine in_ ?_ | (refine ⟨_, (by first | exact fp_Trim_con ‹_›), ?_⟩; refine go_ ?_))); exact ih1 _ (by omega) _ _ _ _ _ _ _ _ _ _ _ h) | ((repeat (first | refine fg_ ?_ | refine pg_ ?_ | refine qg_ ?_ | refine an_ ?_ | refine ip_ ?_ | refine in_ ?_ | (refine ⟨_, (by first | exact fp_Trim_con ‹_›), ?_⟩; refine go_ ?_))); exact ih0 _ (by omega) _ _ _ _ _ _ h) | (cases h <;> (repeat (first | refine fg_ ?_ | refine pg_ ?_ | refine qg_ ?_ | refine an_ ?_ | refine ip_ ?_ | refine in_ ?_ | (refine ⟨_, (by first | exact fp_Trim_con ‹_›), ?_⟩; refine go_ ?_))) <;> (first | done | rfl | trivial | (simp; done))))
       exact key _ (by omega) _ _ _ _ _ _ _ _ _ _ _ h)
    exact key _ _ _ _ _ _ _ h)
theorem fp_MulMod_con {k : Nat} {a0 : Int} {l1 : List Int} {l2 : List Int} {l3 : List Int} {r : List Int} (h : fp_MulMod.f k a0 l1 l2 l3 = some r) : Con Try.prog 94 [⟨.int .i64, a0⟩, ⟨.sl 3 (.int .i64), l1⟩, ⟨.sl 3 (.int .i64), l2⟩, ⟨.sl 3 (.int .i64), l3⟩] [(false, ⟨.sl 3 (.int .i64), r⟩)] := by
 refine con_ (ps := [0, 1, 2, 3, 8]) (res := [(8, none)]) ?_ Try.func94 Try.ntmps94
 refine go_ ?_
 unfold fp_MulMod.f at h
 replace h := hs_ h
 repeat' (first | split at h | (refine bnf h fun t e h => ?_; (repeat (first | refine fg_ ?_ | refine pg_ ?_ | refine qg_ ?_ | refine an_ ?_ | refine ip_ ?_ | refine in_ ?_)); refine ⟨_, (by first | exact fp_Mul_con e | exact fp_Rem_con e), ?_⟩; refine go_ ?_) | (refine bnf h fun t e h => ?_; (repeat (first | refine fg_ ?_ | refine pg_ ?_ | refine qg_ ?_ | refine an_ ?_ | refine ip_ ?_ | refine in_ ?_ | (refine ⟨_, (by first | exact fp_Mul_con ‹_› | exact fp_Rem_con ‹_›), ?_⟩; refine go_ ?_))); refine ⟨_, (by first | exact fp_Mul_con e | exact fp_Rem_con e), ?_⟩; refine go_ ?_) | fail)
 all_goals (first | (cases h <;> (repeat (first | refine fg_ ?_ | refine pg_ ?_ | refine qg_ ?_ | refine an_ ?_ | refine ip_ ?_ | refine in_ ?_ | (refine ⟨_, (by first | exact fp_Mul_con ‹_› | exact fp_Rem_con ‹_›), ?_⟩; refine go_ ?_))) <;> (first | done | rfl | trivial | (simp; done))))
theorem fp_PowMod_con {k : Nat} {a0 : Int} {l1 : List Int} {a2 : ByteArray} {l3 : List Int} {r : List Int} (h : fp_PowMod.f k a0 l1 a2 l3 = some r) : Con Try.prog 99 [⟨.int .i64, a0⟩, ⟨.sl 3 (.int .i64), l1⟩, ⟨.str, a2⟩, ⟨.sl 3 (.int .i64), l3⟩] [(false, ⟨.sl 3 (.int .i64), r⟩)] := by
 refine con_ (ps := [0, 1, 2, 3, 8, 9, 10, 11, 12, 22, 23, 24, 27, 41]) (res := [(8, none)]) ?_ Try.func99 Try.ntmps99
 refine go_ ?_
 unfold fp_PowMod.f at h
 replace h := hs_ h
 repeat' (first | split at h | (refine bnf h fun t e h => ?_; (repeat (first | refine fg_ ?_ | refine pg_ ?_ | refine qg_ ?_ | refine an_ ?_ | refine ip_ ?_ | refine in_ ?_)); refine ⟨_, (by first | exact fp_Rem_con e | exact fp_MulMod_con e), ?_⟩; refine go_ ?_) | (refine bnf h fun t e h => ?_; (repeat (first | refine fg_ ?_ | refine pg_ ?_ | refine qg_ ?_ | refine an_ ?_ | refine ip_ ?_ | refine in_ ?_ | (refine ⟨_, (by first | exact fp_Rem_con ‹_› | exact fp_MulMod_con ‹_›), ?_⟩; refine go_ ?_))); refine ⟨_, (by first | exact fp_Rem_con e | exact fp_MulMod_con e), ?_⟩; refine go_ ?_) | fail)
 all_goals first
  | (cases h <;> (repeat (first | refine fg_ ?_ | refine pg_ ?_ | refine qg_ ?_ | refine an_ ?_ | refine ip_ ?_ | refine in_ ?_ | (refine ⟨_, (by first | exact fp_Rem_con ‹_› | exact fp_MulMod_con ‹_›), ?_⟩; refine go_ ?_))) <;> (first | done | rfl | trivial | (simp; done)))
  | (
    (with_reducible have h : fp_PowMod.l0 _ _ _ _ _ _ _ _ = some r := h)
    repeat (first | refine fg_ ?_ | refine pg_ ?_ | refine qg_ ?_ | refine an_ ?_ | refine ip_ ?_ | refine in_ ?_ | (refine ⟨_, (by first | exact fp_Rem_con ‹_› | exact fp_MulMod_con ‹_›), ?_⟩; refine go_ ?_))
    refine lp [(0, .keep), (2, .keep), (3, .row 3 (.int .i64)), (9, .row 3 (.int .i64)), (10, .row 3 (.int .i64)), (22, .keep), (23, .keep)] fun X0 hX0 => ?_
    refine go_ ?_
    have key : ∀ k x0 x2 x3 x9 x10 x22 x23, fp_PowMod.l0 k x0 x2 x3 x9 x10 x22 x23 = some r → X0 ⟨lkp .bot [(23, .ro (.int .i64) x23), (22, .ro (.int .i64) x22), (10, .ro (.sl 3 (.int .i64)) x10), (9, .ro (.sl 3 (.int .i64)) x9), (3, .ro (.sl 3 (.int .i64)) x3), (2, .ro (.str) x2), (0, .ro (.int .i64) x0)], lkp none [], 0⟩ := by
     refine sind fun k ih0 x0 x2 x3 x9 x10 x22 x23 h => hX0 _ ?_
     clear hX0
     rcases k with _ | k
     ·cases h
     unfold fp_PowMod.l0 at h
     replace h := hs_ h
     refine go_ ?_
     repeat' (first | split at h | (refine bnf h fun t e h => ?_; (repeat (first | refine fg_ ?_ | refine pg_ ?_ | refine qg_ ?_ | refine an_ ?_ | refine ip_ ?_ | refine in_ ?_)); refine ⟨_, (by first | exact fp_Rem_con e | exact fp_MulMod_con e), ?_⟩; refine go_ ?_) | (refine bnf h fun t e h => ?_; (repeat (first | refine fg_ ?_ | refine pg_ ?_ | refine qg_ ?_ | refine an_ ?_ | refine ip_ ?_ | refine in_ ?_ | (refine ⟨_, (by first | exact fp_Rem_con ‹_› | exact fp_MulMod_con ‹_›), ?_⟩; refine go_ ?_))); refine ⟨_, (by first | exact fp_Rem_con e | exact fp_MulMod_con e), ?_⟩; refine go_ ?_) | fail)
     all_goals first
      | ((repeat (first | refine fg_ ?_ | refine pg_ ?_ | refine qg_ ?_ | refine an_ ?_ | refine ip_ ?_ | refine in_ ?_ | (refine ⟨_, (by first | exact fp_Rem_con ‹_› | exact fp_MulMod_con ‹_›), ?_⟩; refine go_ ?_))); exact ih0 _ (by omega) _ _ _ _ _ _ _ h)
      | (cases h <;> (repeat (first | refine fg_ ?_ | refine pg_ ?_ | refine qg_ ?_ | refine an_ ?_ | refine ip_ ?_ | refine in_ ?_ | (refine ⟨_, (by first | exact fp_Rem_con ‹_› | exact fp_MulMod_con ‹_›), ?_⟩; refine go_ ?_))) <;> (first | done | rfl | trivial | (simp; done)))
      | (
       (with_reducible have h : fp_PowMod.l1 _ _ _ _ _ _ _ _ _ _ = some r := h)
       repeat (first | refine fg_ ?_ | refine pg_ ?_ | refine qg_ ?_ | refine an_ ?_ | refine ip_ ?_ | refine in_ ?_ | (refine ⟨_, (by first | exact fp_Rem_con ‹_› | exact fp_MulMod_con ‹_›), ?_⟩; refine go_ ?_))
       refine lp [(0, .keep), (2, .keep), (3, .row 3 (.int .i64)), (9, .row 3 (.int .i64)), (10, .row 3 (.int .i64)), (11, .keep), (12, .keep), (22, .keep), (23, .keep)] fun X1 hX1 => ?_
       refine go_ ?_
       have key : ∀ j, j ≤ k → ∀ x0 x2 x3 x9 x10 x11 x12 x22 x23, fp_PowMod.l1 j x0 x2 x3 x9 x10 x11 x12 x22 x23 = some r → X1 ⟨lkp .bot [(23, .ro (.int .i64) x23), (22, .ro (.int .i64) x22), (12, .ro (.int .i64) x12), (11, .ro (.int .i64) x11), (10, .ro (.sl 3 (.int .i64)) x10), (9, .ro (.sl 3 (.int .i64)) x9), (3, .ro (.sl 3 (.int .i64)) x3), (2, .ro (.str) x2), (0, .ro (.int .i64) x0)], lkp none [], 0⟩ := by
        refine sinb fun k hk1 ih1 x0 x2 x3 x9 x10 x11 x12 x22 x23 h => hX1 _ ?_
        clear hX1
        rcases k with _ | k
        ·cases h
        unfold fp_PowMod.l1 at h
        replace h := hs_ h
        refine go_ ?_
        repeat' (first | split at h | (refine bnf h fun t e h => ?_; (repeat (first | refine fg_ ?_ | refine pg_ ?_ | refine qg_ ?_ | refine an_ ?_ | refine ip_ ?_ | refine in_ ?_)); refine ⟨_, (by first | exact fp_Rem_con e | exact fp_MulMod_con e), ?_⟩; refine go_ ?_) | (refine bnf h fun t e h => ?_; (repeat (first | refine fg_ ?_ | refine pg_ ?_ | refine qg_ ?_ | refine an_ ?_ | refine ip_ ?_ | refine in_ ?_ | (refine ⟨_, (by first | exact fp_Rem_con ‹_› | exact fp_MulMod_con ‹_›), ?_⟩; refine go_ ?_))); refine ⟨_, (by first | exact fp_Rem_con e | exact fp_MulMod_con e), ?_⟩; refine go_ ?_) | fail)
        all_goals (first | ((repeat (first | refine fg_ ?_ | refine pg_ ?_ | refine qg_ ?_ | refine an_ ?_ | refine ip_ ?_ | refine in_ ?_ | (refine ⟨_, (by first | exact fp_Rem_con ‹_› | exact fp_MulMod_con ‹_›), ?_⟩; refine go_ ?_))); exact ih1 _ (by omega) _ _ _ _ _ _ _ _ _ h) | ((repeat (first | refine fg_ ?_ | refine pg_ ?_ | refine qg_ ?_ | refine an_ ?_ | refine ip_ ?_ | refine in_ ?_ | (refine ⟨_, (by first | exact fp_Rem_con ‹_› | exact fp_MulMod_con ‹_›), ?_⟩; refine go_ ?_))); exact ih0 _ (by omega) _ _ _ _ _ _ _ h) | (cases h <;> (repeat (first | refine fg_ ?_ | refine pg_ ?_ | refine qg_ ?_ | refine an_ ?_ | refine ip_ ?_ | refine in_ ?_ | (refine ⟨_, (by first | exact fp_Rem_con ‹_› | exact fp_MulMod_con ‹_›), ?_⟩; refine go_ ?_))) <;> (first | done | rfl | trivial | (simp; done))))
       exact key _ (by omega) _ _ _ _ _ _ _ _ _ h)
    exact key _ _ _ _ _ _ _ _ h)
theorem fp_Power_con {k : Nat} {a0 : Int} {l1 : List Int} {l2 : List Int} {r : List Int} (h : fp_Power.f k a0 l1 l2 = some r) : Con Try.prog 84 [⟨.int .i64, a0⟩, ⟨.sl 3 (.int .i64), l1⟩, ⟨.sl 3 (.int .i64), l2⟩] [(false, ⟨.sl 3 (.int .i64), r⟩)] := by
 refine con_ (ps := [0, 1, 2, 6]) (res := [(6, none)]) ?_ Try.func84 Try.ntmps84
 refine go_ ?_
 unfold fp_Power.f at h
 replace h := hs_ h
 repeat' (first | split at h | (refine bnf h fun t e h => ?_; (repeat (first | refine fg_ ?_ | refine pg_ ?_ | refine qg_ ?_ | refine an_ ?_ | refine ip_ ?_ | refine in_ ?_)); refine ⟨_, (by first | exact fp_PowMod_con e), ?_⟩; refine go_ ?_) | (refine bnf h fun t e h => ?_; (repeat (first | refine fg_ ?_ | refine pg_ ?_ | refine qg_ ?_ | refine an_ ?_ | refine ip_ ?_ | refine in_ ?_ | (refine ⟨_, (by first | exact fp_PowMod_con ‹_›), ?_⟩; refine go_ ?_))); refine ⟨_, (by first | exact fp_PowMod_con e), ?_⟩; refine go_ ?_) | fail)
 all_goals (first | (cases h <;> (repeat (first | refine fg_ ?_ | refine pg_ ?_ | refine qg_ ?_ | refine an_ ?_ | refine ip_ ?_ | refine in_ ?_ | (refine ⟨_, (by first | exact fp_PowMod_con ‹_›), ?_⟩; refine go_ ?_))) <;> (first | done | rfl | trivial | (simp; done))))
theorem fp_Scale_con {k : Nat} {a0 : Int} {l1 : List Int} {a2 : Int} {r : List Int} (h : fp_Scale.f k a0 l1 a2 = some r) : Con Try.prog 57 [⟨.int .i64, a0⟩, ⟨.sl 3 (.int .i64), l1⟩, ⟨.int .i64, a2⟩] [(false, ⟨.sl 3 (.int .i64), r⟩)] := by
 refine con_ (ps := [0, 1, 2, 6, 7, 8, 9, 13, 14, 15, 16]) (res := [(6, none)]) ?_ Try.func57 Try.ntmps57
 refine go_ ?_
 unfold fp_Scale.f at h
 replace h := hs_ h
 repeat' (first | split at h | (refine bnf h fun t e h => ?_; (repeat (first | refine fg_ ?_ | refine pg_ ?_ | refine qg_ ?_ | refine an_ ?_ | refine ip_ ?_ | refine in_ ?_)); refine ⟨_, (by first | exact fp_Trim_con e), ?_⟩; refine go_ ?_) | (refine bnf h fun t e h => ?_; (repeat (first | refine fg_ ?_ | refine pg_ ?_ | refine qg_ ?_ | refine an_ ?_ | refine ip_ ?_ | refine in_ ?_ | (refine ⟨_, (by first | exact fp_Trim_con ‹_›), ?_⟩; refine go_ ?_))); refine ⟨_, (by first | exact fp_Trim_con e), ?_⟩; refine go_ ?_) | fail)
 all_goals first
  | (cases h <;> (repeat (first | refine fg_ ?_ | refine pg_ ?_ | refine qg_ ?_ | refine an_ ?_ | refine ip_ ?_ | refine in_ ?_ | (refine ⟨_, (by first | exact fp_Trim_con ‹_›), ?_⟩; refine go_ ?_))) <;> (first | done | rfl | trivial | (simp; done)))
  | (
    (with_reducible have h : fp_Scale.l0 _ _ _ _ _ _ _ = some r := h)
    repeat (first | refine fg_ ?_ | refine pg_ ?_ | refine qg_ ?_ | refine an_ ?_ | refine ip_ ?_ | refine in_ ?_ | (refine ⟨_, (by first | exact fp_Trim_con ‹_›), ?_⟩; refine go_ ?_))
    refine lp [(0, .keep), (2, .keep), (7, .own 3 (.int .i64)), (13, .row 3 (.int .i64)), (14, .keep), (15, .keep)] fun X0 hX0 => ?_
    refine go_ ?_
    have key : ∀ k x0 x2 x7 x13 x14 x15, fp_Scale.l0 k x0 x2 x7 x13 x14 x15 = some r → X0 ⟨lkp .bot [(15, .ro (.int .i64) x15), (14, .ro (.int .i64) x14), (13, .ro (.sl 3 (.int .i64)) x13), (7, .own 14), (2, .ro (.int .i64) x2), (0, .ro (.int .i64) x0)], lkp none [(14, some ⟨3, .int .i64, x7, true⟩)], 0⟩ := by
     refine sind fun k ih0 x0 x2 x7 x13 x14 x15 h => hX0 _ ?_
     clear hX0
     rcases k with _ | k
     ·cases h
     unfold fp_Scale.l0 at h
     replace h := hs_ h
     refine go_ ?_
     repeat' (first | split at h | (refine bnf h fun t e h => ?_; (repeat (first | refine fg_ ?_ | refine pg_ ?_ | refine qg_ ?_ | refine an_ ?_ | refine ip_ ?_ | refine in_ ?_)); refine ⟨_, (by first | exact fp_Trim_con e), ?_⟩; refine go_ ?_) | (refine bnf h fun t e h => ?_; (repeat (first | refine fg_ ?_ | refine pg_ ?_ | refine qg_ ?_ | refine an_ ?_ | refine ip_ ?_ | refine in_ ?_ | (refine ⟨_, (by first | exact fp_Trim_con ‹_›), ?_⟩; refine go_ ?_))); refine ⟨_, (by first | exact fp_Trim_con e), ?_⟩; refine go_ ?_) | fail)
     all_goals (first | ((repeat (first | refine fg_ ?_ | refine pg_ ?_ | refine qg_ ?_ | refine an_ ?_ | refine ip_ ?_ | refine in_ ?_ | (refine ⟨_, (by first | exact fp_Trim_con ‹_›), ?_⟩; refine go_ ?_))); exact ih0 _ (by omega) _ _ _ _ _ _ h) | (cases h <;> (repeat (first | refine fg_ ?_ | refine pg_ ?_ | refine qg_ ?_ | refine an_ ?_ | refine ip_ ?_ | refine in_ ?_ | (refine ⟨_, (by first | exact fp_Trim_con ‹_›), ?_⟩; refine go_ ?_))) <;> (first | done | rfl | trivial | (simp; done))))
    exact key _ _ _ _ _ _ _ h)
theorem fp_Monic_con {k : Nat} {a0 : Int} {l1 : List Int} {r : List Int} (h : fp_Monic.f k a0 l1 = some r) : Con Try.prog 107 [⟨.int .i64, a0⟩, ⟨.sl 3 (.int .i64), l1⟩] [(false, ⟨.sl 3 (.int .i64), r⟩)] := by
 refine con_ (ps := [0, 1, 4, 7]) (res := [(4, none)]) ?_ Try.func107 Try.ntmps107
 refine go_ ?_
 unfold fp_Monic.f at h
 replace h := hs_ h
 repeat' (first | split at h | (refine bnf h fun t e h => ?_; (repeat (first | refine fg_ ?_ | refine pg_ ?_ | refine qg_ ?_ | refine an_ ?_ | refine ip_ ?_ | refine in_ ?_)); refine ⟨_, (by first | exact fp_Inv_con e | exact fp_Scale_con e), ?_⟩; refine go_ ?_) | (refine bnf h fun t e h => ?_; (repeat (first | refine fg_ ?_ | refine pg_ ?_ | refine qg_ ?_ | refine an_ ?_ | refine ip_ ?_ | refine in_ ?_ | (refine ⟨_, (by first | exact fp_Inv_con ‹_› | exact fp_Scale_con ‹_›), ?_⟩; refine go_ ?_))); refine ⟨_, (by first | exact fp_Inv_con e | exact fp_Scale_con e), ?_⟩; refine go_ ?_) | fail)
 all_goals (first | (cases h <;> (repeat (first | refine fg_ ?_ | refine pg_ ?_ | refine qg_ ?_ | refine an_ ?_ | refine ip_ ?_ | refine in_ ?_ | (refine ⟨_, (by first | exact fp_Inv_con ‹_› | exact fp_Scale_con ‹_›), ?_⟩; refine go_ ?_))) <;> (first | done | rfl | trivial | (simp; done))))
theorem fp_Gcd_con {k : Nat} {a0 : Int} {l1 : List Int} {l2 : List Int} {r : List Int} (h : fp_Gcd.f k a0 l1 l2 = some r) : Con Try.prog 85 [⟨.int .i64, a0⟩, ⟨.sl 3 (.int .i64), l1⟩, ⟨.sl 3 (.int .i64), l2⟩] [(false, ⟨.sl 3 (.int .i64), r⟩)] := by
 refine con_ (ps := [0, 1, 2, 6, 9]) (res := [(6, none)]) ?_ Try.func85 Try.ntmps85
 refine go_ ?_
 unfold fp_Gcd.f at h
 replace h := hs_ h
 repeat' (first | split at h | (refine bnf h fun t e h => ?_; (repeat (first | refine fg_ ?_ | refine pg_ ?_ | refine qg_ ?_ | refine an_ ?_ | refine ip_ ?_ | refine in_ ?_)); refine ⟨_, (by first | exact fp_Rem_con e | exact fp_Monic_con e), ?_⟩; refine go_ ?_) | (refine bnf h fun t e h => ?_; (repeat (first | refine fg_ ?_ | refine pg_ ?_ | refine qg_ ?_ | refine an_ ?_ | refine ip_ ?_ | refine in_ ?_ | (refine ⟨_, (by first | exact fp_Rem_con ‹_› | exact fp_Monic_con ‹_›), ?_⟩; refine go_ ?_))); refine ⟨_, (by first | exact fp_Rem_con e | exact fp_Monic_con e), ?_⟩; refine go_ ?_) | fail)
 all_goals first
  | (cases h <;> (repeat (first | refine fg_ ?_ | refine pg_ ?_ | refine qg_ ?_ | refine an_ ?_ | refine ip_ ?_ | refine in_ ?_ | (refine ⟨_, (by first | exact fp_Rem_con ‹_› | exact fp_Monic_con ‹_›), ?_⟩; refine go_ ?_))) <;> (first | done | rfl | trivial | (simp; done)))
  | (
    (with_reducible have h : fp_Gcd.l0 _ _ _ _ = some r := h)
    repeat (first | refine fg_ ?_ | refine pg_ ?_ | refine qg_ ?_ | refine an_ ?_ | refine ip_ ?_ | refine in_ ?_ | (refine ⟨_, (by first | exact fp_Rem_con ‹_› | exact fp_Monic_con ‹_›), ?_⟩; refine go_ ?_))
    refine lp [(0, .keep), (1, .row 3 (.int .i64)), (2, .row 3 (.int .i64))] fun X0 hX0 => ?_
    refine go_ ?_
    have key : ∀ k x0 x1 x2, fp_Gcd.l0 k x0 x1 x2 = some r → X0 ⟨lkp .bot [(2, .ro (.sl 3 (.int .i64)) x2), (1, .ro (.sl 3 (.int .i64)) x1), (0, .ro (.int .i64) x0)], lkp none [], 0⟩ := by
     refine sind fun k ih0 x0 x1 x2 h => hX0 _ ?_
     clear hX0
     rcases k with _ | k
     ·cases h
     unfold fp_Gcd.l0 at h
     replace h := hs_ h
     refine go_ ?_
     repeat' (first | split at h | (refine bnf h fun t e h => ?_; (repeat (first | refine fg_ ?_ | refine pg_ ?_ | refine qg_ ?_ | refine an_ ?_ | refine ip_ ?_ | refine in_ ?_)); refine ⟨_, (by first | exact fp_Rem_con e | exact fp_Monic_con e), ?_⟩; refine go_ ?_) | (refine bnf h fun t e h => ?_; (repeat (first | refine fg_ ?_ | refine pg_ ?_ | refine qg_ ?_ | refine an_ ?_ | refine ip_ ?_ | refine in_ ?_ | (refine ⟨_, (by first | exact fp_Rem_con ‹_› | exact fp_Monic_con ‹_›), ?_⟩; refine go_ ?_))); refine ⟨_, (by first | exact fp_Rem_con e | exact fp_Monic_con e), ?_⟩; refine go_ ?_) | fail)
     all_goals (first | ((repeat (first | refine fg_ ?_ | refine pg_ ?_ | refine qg_ ?_ | refine an_ ?_ | refine ip_ ?_ | refine in_ ?_ | (refine ⟨_, (by first | exact fp_Rem_con ‹_› | exact fp_Monic_con ‹_›), ?_⟩; refine go_ ?_))); exact ih0 _ (by omega) _ _ _ h) | (cases h <;> (repeat (first | refine fg_ ?_ | refine pg_ ?_ | refine qg_ ?_ | refine an_ ?_ | refine ip_ ?_ | refine in_ ?_ | (refine ⟨_, (by first | exact fp_Rem_con ‹_› | exact fp_Monic_con ‹_›), ?_⟩; refine go_ ?_))) <;> (first | done | rfl | trivial | (simp; done))))
    exact key _ _ _ _ h)
theorem fp_Irreducible_con {k : Nat} {a0 : Int} {l1 : List Int} {r : Bool} (h : fp_Irreducible.f k a0 l1 = some r) : Con Try.prog 46 [⟨.int .i64, a0⟩, ⟨.sl 3 (.int .i64), l1⟩] [(false, ⟨.bool, r⟩)] := by
 refine con_ (ps := [0, 1, 4, 5, 6, 7, 8, 9, 14, 22, 38, 53]) (res := [(4, none)]) ?_ Try.func46 Try.ntmps46
 refine go_ ?_
 unfold fp_Irreducible.f at h
 replace h := hs_ h
 repeat' (first | split at h | (refine bnf h fun t e h => ?_; (repeat (first | refine fg_ ?_ | refine pg_ ?_ | refine qg_ ?_ | refine an_ ?_ | refine ip_ ?_ | refine in_ ?_)); refine ⟨_, (by first | exact fp_Rem_con e | exact fp_Power_con e | exact fp_Sub_con e | exact fp_Gcd_con e), ?_⟩; refine go_ ?_) | (refine bnf h fun t e h => ?_; (repeat (first | refine fg_ ?_ | refine pg_ ?_ | refine qg_ ?_ | refine an_ ?_ | refine ip_ ?_ | refine in_ ?_ | (refine ⟨_, (by first | exact fp_Rem_con ‹_› | exact fp_Power_con ‹_› | exact fp_Sub_con ‹_› | exact fp_Gcd_con ‹_›), ?_⟩; refine go_ ?_))); refine ⟨_, (by first | exact fp_Rem_con e | exact fp_Power_con e | exact fp_Sub_con e | exact fp_Gcd_con e), ?_⟩; refine go_ ?_) | fail)
 all_goals first
  | (cases h <;> (repeat (first | refine fg_ ?_ | refine pg_ ?_ | refine qg_ ?_ | refine an_ ?_ | refine ip_ ?_ | refine in_ ?_ | (refine ⟨_, (by first | exact fp_Rem_con ‹_› | exact fp_Power_con ‹_› | exact fp_Sub_con ‹_› | exact fp_Gcd_con ‹_›), ?_⟩; refine go_ ?_))) <;> (first | done | rfl | trivial | (simp; done)))
  | (
    (with_reducible have h : fp_Irreducible.l0 _ _ _ _ _ _ _ = some r := h)
    repeat (first | refine fg_ ?_ | refine pg_ ?_ | refine qg_ ?_ | refine an_ ?_ | refine ip_ ?_ | refine in_ ?_ | (refine ⟨_, (by first | exact fp_Rem_con ‹_› | exact fp_Power_con ‹_› | exact fp_Sub_con ‹_› | exact fp_Gcd_con ‹_›), ?_⟩; refine go_ ?_))
    refine lp [(0, .keep), (1, .row 3 (.int .i64)), (5, .keep), (6, .row 3 (.int .i64)), (7, .row 3 (.int .i64)), (8, .keep)] fun X0 hX0 => ?_
    refine go_ ?_
    have key : ∀ k x0 x1 x5 x6 x7 x8, fp_Irreducible.l0 k x0 x1 x5 x6 x7 x8 = some r → X0 ⟨lkp .bot [(8, .ro (.int .i64) x8), (7, .ro (.sl 3 (.int .i64)) x7), (6, .ro (.sl 3 (.int .i64)) x6), (5, .ro (.int .i64) x5), (1, .ro (.sl 3 (.int .i64)) x1), (0, .ro (.int .i64) x0)], lkp none [], 0⟩ := by
     refine sind fun k ih0 x0 x1 x5 x6 x7 x8 h => hX0 _ ?_
     clear hX0
     rcases k with _ | k
     ·cases h
     unfold fp_Irreducible.l0 at h
     replace h := hs_ h
     refine go_ ?_
     repeat' (first | split at h | (refine bnf h fun t e h => ?_; (repeat (first | refine fg_ ?_ | refine pg_ ?_ | refine qg_ ?_ | refine an_ ?_ | refine ip_ ?_ | refine in_ ?_)); refine ⟨_, (by first | exact fp_Rem_con e | exact fp_Power_con e | exact fp_Sub_con e | exact fp_Gcd_con e), ?_⟩; refine go_ ?_) | (refine bnf h fun t e h => ?_; (repeat (first | refine fg_ ?_ | refine pg_ ?_ | refine qg_ ?_ | refine an_ ?_ | refine ip_ ?_ | refine in_ ?_ | (refine ⟨_, (by first | exact fp_Rem_con ‹_› | exact fp_Power_con ‹_› | exact fp_Sub_con ‹_› | exact fp_Gcd_con ‹_›), ?_⟩; refine go_ ?_))); refine ⟨_, (by first | exact fp_Rem_con e | exact fp_Power_con e | exact fp_Sub_con e | exact fp_Gcd_con e), ?_⟩; refine go_ ?_) | fail)
     all_goals (first | ((repeat (first | refine fg_ ?_ | refine pg_ ?_ | refine qg_ ?_ | refine an_ ?_ | refine ip_ ?_ | refine in_ ?_ | (refine ⟨_, (by first | exact fp_Rem_con ‹_› | exact fp_Power_con ‹_› | exact fp_Sub_con ‹_› | exact fp_Gcd_con ‹_›), ?_⟩; refine go_ ?_))); exact ih0 _ (by omega) _ _ _ _ _ _ h) | (cases h <;> (repeat (first | refine fg_ ?_ | refine pg_ ?_ | refine qg_ ?_ | refine an_ ?_ | refine ip_ ?_ | refine in_ ?_ | (refine ⟨_, (by first | exact fp_Rem_con ‹_› | exact fp_Power_con ‹_› | exact fp_Sub_con ‹_› | exact fp_Gcd_con ‹_›), ?_⟩; refine go_ ?_))) <;> (first | done | rfl | trivial | (simp; done))))
    exact key _ _ _ _ _ _ _ h)
theorem fi_Check_con {k : Nat} {a0_0 : Int} {l0_1 : List Int} {r : Int} (h : fi_Check.f k a0_0 l0_1 = some r) : Con Try.prog 23 [⟨.pr (.int .i64) (.pr (.sl 3 (.int .i64)) (.un)), (a0_0, (l0_1, ()))⟩] [(false, ⟨.int .i64, r⟩)] := by
 refine con_ (ps := [0, 1, 2, 3, 4, 11, 17, 20, 31]) (res := [(2, none)]) ?_ Try.func23 Try.ntmps23
 refine go_ ?_
 unfold fi_Check.f at h
 replace h := hs_ h
 repeat' (first | split at h | (refine bnf h fun t e h => ?_; (repeat (first | refine fg_ ?_ | refine pg_ ?_ | refine qg_ ?_ | refine an_ ?_ | refine ip_ ?_ | refine in_ ?_)); refine ⟨_, (by first | exact pm_Check_con e | exact fp_Irreducible_con e), ?_⟩; refine go_ ?_) | (refine bnf h fun t e h => ?_; (repeat (first | refine fg_ ?_ | refine pg_ ?_ | refine qg_ ?_ | refine an_ ?_ | refine ip_ ?_ | refine in_ ?_ | (refine ⟨_, (by first | exact pm_Check_con ‹_› | exact fp_Irreducible_con ‹_›), ?_⟩; refine go_ ?_))); refine ⟨_, (by first | exact pm_Check_con e | exact fp_Irreducible_con e), ?_⟩; refine go_ ?_) | (rcases k with _ | k; (· cases h); unfold fi_Check.j0 at h; replace h := hs_ h) | fail)
 all_goals (first | (cases h <;> (repeat (first | refine fg_ ?_ | refine pg_ ?_ | refine qg_ ?_ | refine an_ ?_ | refine ip_ ?_ | refine in_ ?_ | (refine ⟨_, (by first | exact pm_Check_con ‹_› | exact fp_Irreducible_con ‹_›), ?_⟩; refine go_ ?_))) <;> (first | done | rfl | trivial | (simp; done))))
theorem gFDegree_con {a0_0 : Int} {l0_1 : List Int} {r : Int} (h : gFDegree.f a0_0 l0_1 = some r) : Con Try.prog 110 [⟨.pr (.pr (.int .i64) (.pr (.sl 3 (.int .i64)) (.un))) (.un), ((a0_0, (l0_1, ())), ())⟩] [(false, ⟨.int .i64, r⟩)] := by
 refine con_ (ps := [0, 1, 2]) (res := [(2, none)]) ?_ Try.func110 Try.ntmps110
 refine go_ ?_
 unfold gFDegree.f at h
 replace h := hs_ h
 repeat' (first | split at h | fail)
 all_goals (first | (cases h <;> (repeat (first | refine fg_ ?_ | refine pg_ ?_ | refine qg_ ?_ | refine an_ ?_ | refine ip_ ?_ | refine in_ ?_)) <;> (first | done | rfl | trivial | (simp; done))))
theorem gFSize_con {k : Nat} {a0_0 : Int} {l0_1 : List Int} {r1 : Int} {r2 : Bool} (h : gFSize.f k a0_0 l0_1 = some (r1, r2)) : Con Try.prog 90 [⟨.pr (.pr (.int .i64) (.pr (.sl 3 (.int .i64)) (.un))) (.un), ((a0_0, (l0_1, ())), ())⟩] [(false, ⟨.int .i64, r1⟩), (false, ⟨.bool, r2⟩)] := by
 refine con_ (ps := [0, 1, 2, 3, 4, 6, 7, 8, 15]) (res := [(2, none), (3, none)]) ?_ Try.func90 Try.ntmps90
 refine go_ ?_
 unfold gFSize.f at h
 replace h := hs_ h
 repeat' (first | split at h | (refine bnf h fun t e h => ?_; (repeat (first | refine fg_ ?_ | refine pg_ ?_ | refine qg_ ?_ | refine an_ ?_ | refine ip_ ?_ | refine in_ ?_)); refine ⟨_, (by first | exact gFDegree_con e), ?_⟩; refine go_ ?_) | (refine bnf h fun t e h => ?_; (repeat (first | refine fg_ ?_ | refine pg_ ?_ | refine qg_ ?_ | refine an_ ?_ | refine ip_ ?_ | refine in_ ?_ | (refine ⟨_, (by first | exact gFDegree_con ‹_›), ?_⟩; refine go_ ?_))); refine ⟨_, (by first | exact gFDegree_con e), ?_⟩; refine go_ ?_) | fail)
 all_goals first
  | (cases h <;> (repeat (first | refine fg_ ?_ | refine pg_ ?_ | refine qg_ ?_ | refine an_ ?_ | refine ip_ ?_ | refine in_ ?_ | (refine ⟨_, (by first | exact gFDegree_con ‹_›), ?_⟩; refine go_ ?_))) <;> (first | done | rfl | trivial | (simp; done)))
  | (
    (with_reducible have h : gFSize.l0 _ _ _ _ _ _ = some (r1, r2) := h)
    repeat (first | refine fg_ ?_ | refine pg_ ?_ | refine qg_ ?_ | refine an_ ?_ | refine ip_ ?_ | refine in_ ?_ | (refine ⟨_, (by first | exact gFDegree_con ‹_›), ?_⟩; refine go_ ?_))
    refine lp [(4, .keep), (6, .keep), (7, .keep), (1, .box)] fun X0 hX0 => ?_
    refine go_ ?_
    have key : ∀ k x4 x6 x7 x102000 x102001, gFSize.l0 k x4 x6 x7 x102000 x102001 = some (r1, r2) → X0 ⟨lkp .bot [(1, .ptr 2 0 []), (7, .ro (.int .i64) x7), (6, .ro (.int .i64) x6), (4, .ro (.int .i64) x4)], lkp none [(2, some ⟨68, .pr (.pr (.int .i64) (.pr (.sl 3 (.int .i64)) (.un))) (.un), [((x102000, (x102001, ())), ())], true⟩)], 0⟩ := by
     refine sind fun k ih0 x4 x6 x7 x102000 x102001 h => hX0 _ ?_
     clear hX0
     rcases k with _ | k
     ·cases h
     unfold gFSize.l0 at h
     replace h := hs_ h
     refine go_ ?_
     repeat' (first | split at h | (refine bnf h fun t e h => ?_; (repeat (first | refine fg_ ?_ | refine pg_ ?_ | refine qg_ ?_ | refine an_ ?_ | refine ip_ ?_ | refine in_ ?_)); refine ⟨_, (by first | exact gFDegree_con e), ?_⟩; refine go_ ?_) | (refine bnf h fun t e h => ?_; (repeat (first | refine fg_ ?_ | refine pg_ ?_ | refine qg_ ?_ | refine an_ ?_ | refine ip_ ?_ | refine in_ ?_ | (refine ⟨_, (by first | exact gFDegree_con ‹_›), ?_⟩; refine go_ ?_))); refine ⟨_, (by first | exact gFDegree_con e), ?_⟩; refine go_ ?_) | fail)
     all_goals (first | ((repeat (first | refine fg_ ?_ | refine pg_ ?_ | refine qg_ ?_ | refine an_ ?_ | refine ip_ ?_ | refine in_ ?_ | (refine ⟨_, (by first | exact gFDegree_con ‹_›), ?_⟩; refine go_ ?_))); exact ih0 _ (by omega) _ _ _ _ _ h) | (cases h <;> (repeat (first | refine fg_ ?_ | refine pg_ ?_ | refine qg_ ?_ | refine an_ ?_ | refine ip_ ?_ | refine in_ ?_ | (refine ⟨_, (by first | exact gFDegree_con ‹_›), ?_⟩; refine go_ ?_))) <;> (first | done | rfl | trivial | (simp; done))))
    exact key _ _ _ _ _ _ h)
theorem fi_size_con {k : Nat} {a0_0 : Int} {l0_1 : List Int} {a1 : Int} {r1 : Int} {r2 : Int} (h : fi_size.f k a0_0 l0_1 a1 = some (r1, r2)) : Con Try.prog 51 [⟨.pr (.int .i64) (.pr (.sl 3 (.int .i64)) (.un)), (a0_0, (l0_1, ()))⟩, ⟨.int .i64, a1⟩] [(false, ⟨.int .i64, r1⟩), (false, ⟨.int .i64, r2⟩)] := by
 refine con_ (ps := [0, 1, 2, 4, 5, 6, 7, 20]) (res := [(4, none), (5, none)]) ?_ Try.func51 Try.ntmps51
 refine go_ ?_
 unfold fi_size.f at h
 replace h := hs_ h
 repeat' (first | split at h | (refine bnf h fun t e h => ?_; (repeat (first | refine fg_ ?_ | refine pg_ ?_ | refine qg_ ?_ | refine an_ ?_ | refine ip_ ?_ | refine in_ ?_)); refine ⟨_, (by first | exact gFSize_con e), ?_⟩; refine go_ ?_) | (refine bnf h fun t e h => ?_; (repeat (first | refine fg_ ?_ | refine pg_ ?_ | refine qg_ ?_ | refine an_ ?_ | refine ip_ ?_ | refine in_ ?_ | (refine ⟨_, (by first | exact gFSize_con ‹_›), ?_⟩; refine go_ ?_))); refine ⟨_, (by first | exact gFSize_con e), ?_⟩; refine go_ ?_) | fail)
 all_goals (first | (cases h <;> (repeat (first | refine fg_ ?_ | refine pg_ ?_ | refine qg_ ?_ | refine an_ ?_ | refine ip_ ?_ | refine in_ ?_ | (refine ⟨_, (by first | exact gFSize_con ‹_›), ?_⟩; refine go_ ?_))) <;> (first | done | rfl | trivial | (simp; done))))
theorem rs_Factor_con {k : Nat} {a0 : Int} {r1 : List S107} {r2 : Int} (h : rs_Factor.f k a0 = some (r1, r2)) : Con Try.prog 102 [⟨.int .i64, a0⟩] [(false, ⟨.sl 107 (.pr (.int .i64) (.pr (.int .i64) (.un))), (List.map (fun s : S107 => (s.f0, (s.f1, ()))) r1)⟩), (false, ⟨.int .i64, r2⟩)] := by
 refine con_ (ps := [0, 2, 3, 6]) (res := [(2, none), (3, none)]) ?_ Try.func102 Try.ntmps102
 refine go_ ?_
 unfold rs_Factor.f at h
 replace h := hs_ h
 repeat' (first | split at h | (refine bnf h fun t e h => ?_; (repeat (first | refine fg_ ?_ | refine pg_ ?_ | refine qg_ ?_ | refine an_ ?_ | refine ip_ ?_ | refine in_ ?_)); refine ⟨_, (by first | exact rs_bad_con e | exact rs_factor_con e), ?_⟩; refine go_ ?_) | (refine bnf h fun t e h => ?_; (repeat (first | refine fg_ ?_ | refine pg_ ?_ | refine qg_ ?_ | refine an_ ?_ | refine ip_ ?_ | refine in_ ?_ | (refine ⟨_, (by first | exact rs_bad_con ‹_› | exact rs_factor_con ‹_›), ?_⟩; refine go_ ?_))); refine ⟨_, (by first | exact rs_bad_con e | exact rs_factor_con e), ?_⟩; refine go_ ?_) | fail)
 all_goals (first | (cases h <;> (repeat (first | refine fg_ ?_ | refine pg_ ?_ | refine qg_ ?_ | refine an_ ?_ | refine ip_ ?_ | refine in_ ?_ | (refine ⟨_, (by first | exact rs_bad_con ‹_› | exact rs_factor_con ‹_›), ?_⟩; refine go_ ?_))) <;> (first | done | rfl | trivial | (simp; done))))
theorem gFMul_con {k : Nat} {a0_0 : Int} {l0_1 : List Int} {l1 : List Int} {l2 : List Int} {r : List Int} (h : gFMul.f k a0_0 l0_1 l1 l2 = some r) : Con Try.prog 59 [⟨.pr (.pr (.int .i64) (.pr (.sl 3 (.int .i64)) (.un))) (.un), ((a0_0, (l0_1, ())), ())⟩, ⟨.sl 3 (.int .i64), l1⟩, ⟨.sl 3 (.int .i64), l2⟩] [(false, ⟨.sl 3 (.int .i64), r⟩)] := by
 refine con_ (ps := [0, 1, 2, 3, 6]) (res := [(6, none)]) ?_ Try.func59 Try.ntmps59
 refine go_ ?_
 unfold gFMul.f at h
 replace h := hs_ h
 repeat' (first | split at h | (refine bnf h fun t e h => ?_; (repeat (first | refine fg_ ?_ | refine pg_ ?_ | refine qg_ ?_ | refine an_ ?_ | refine ip_ ?_ | refine in_ ?_)); refine ⟨_, (by first | exact fp_MulMod_con e), ?_⟩; refine go_ ?_) | (refine bnf h fun t e h => ?_; (repeat (first | refine fg_ ?_ | refine pg_ ?_ | refine qg_ ?_ | refine an_ ?_ | refine ip_ ?_ | refine in_ ?_ | (refine ⟨_, (by first | exact fp_MulMod_con ‹_›), ?_⟩; refine go_ ?_))); refine ⟨_, (by first | exact fp_MulMod_con e), ?_⟩; refine go_ ?_) | fail)
 all_goals (first | (cases h <;> (repeat (first | refine fg_ ?_ | refine pg_ ?_ | refine qg_ ?_ | refine an_ ?_ | refine ip_ ?_ | refine in_ ?_ | (refine ⟨_, (by first | exact fp_MulMod_con ‹_›), ?_⟩; refine go_ ?_))) <;> (first | done | rfl | trivial | (simp; done))))
theorem gFOne_con {a0_0 : Int} {l0_1 : List Int} {r : List Int} (h : gFOne.f a0_0 l0_1 = some r) : Con Try.prog 75 [⟨.pr (.pr (.int .i64) (.pr (.sl 3 (.int .i64)) (.un))) (.un), ((a0_0, (l0_1, ())), ())⟩] [(false, ⟨.sl 3 (.int .i64), r⟩)] := by
 refine con_ (ps := [0, 2]) (res := [(2, none)]) ?_ Try.func75 Try.ntmps75
 refine go_ ?_
 unfold gFOne.f at h
 replace h := hs_ h
 repeat' (first | split at h | fail)
 all_goals (first | (cases h <;> (repeat (first | refine fg_ ?_ | refine pg_ ?_ | refine qg_ ?_ | refine an_ ?_ | refine ip_ ?_ | refine in_ ?_)) <;> (first | done | rfl | trivial | (simp; done))))
theorem gFPow_con {k : Nat} {a0_0 : Int} {l0_1 : List Int} {l1 : List Int} {a2 : Int} {r : List Int} (h : gFPow.f k a0_0 l0_1 l1 a2 = some r) : Con Try.prog 54 [⟨.pr (.pr (.int .i64) (.pr (.sl 3 (.int .i64)) (.un))) (.un), ((a0_0, (l0_1, ())), ())⟩, ⟨.sl 3 (.int .i64), l1⟩, ⟨.int .i64, a2⟩] [(false, ⟨.sl 3 (.int .i64), r⟩)] := by
 refine con_ (ps := [0, 1, 2, 3, 6, 7, 11, 16]) (res := [(6, none)]) ?_ Try.func54 Try.ntmps54
 refine go_ ?_
 unfold gFPow.f at h
 replace h := hs_ h
 repeat' (first | split at h | (refine bnf h fun t e h => ?_; (repeat (first | refine fg_ ?_ | refine pg_ ?_ | refine qg_ ?_ | refine an_ ?_ | refine ip_ ?_ | refine in_ ?_)); refine ⟨_, (by first | exact gFOne_con e | exact gFMul_con e), ?_⟩; refine go_ ?_) | (refine bnf h fun t e h => ?_; (repeat (first | refine fg_ ?_ | refine pg_ ?_ | refine qg_ ?_ | refine an_ ?_ | refine ip_ ?_ | refine in_ ?_ | (refine ⟨_, (by first | exact gFOne_con ‹_› | exact gFMul_con ‹_›), ?_⟩; refine go_ ?_))); refine ⟨_, (by first | exact gFOne_con e | exact gFMul_con e), ?_⟩; refine go_ ?_) | fail)
 all_goals first
  | (cases h <;> (repeat (first | refine fg_ ?_ | refine pg_ ?_ | refine qg_ ?_ | refine an_ ?_ | refine ip_ ?_ | refine in_ ?_ | (refine ⟨_, (by first | exact gFOne_con ‹_› | exact gFMul_con ‹_›), ?_⟩; refine go_ ?_))) <;> (first | done | rfl | trivial | (simp; done)))
  | (
    (with_reducible have h : gFPow.l0 _ _ _ _ _ _ = some r := h)
    repeat (first | refine fg_ ?_ | refine pg_ ?_ | refine qg_ ?_ | refine an_ ?_ | refine ip_ ?_ | refine in_ ?_ | (refine ⟨_, (by first | exact gFOne_con ‹_› | exact gFMul_con ‹_›), ?_⟩; refine go_ ?_))
    refine lp [(1, .row 3 (.int .i64)), (2, .keep), (7, .row 3 (.int .i64)), (3, .box)] fun X0 hX0 => ?_
    refine go_ ?_
    have key : ∀ k x1 x2 x7 x102000 x102001, gFPow.l0 k x1 x2 x7 x102000 x102001 = some r → X0 ⟨lkp .bot [(3, .ptr 6 0 []), (7, .ro (.sl 3 (.int .i64)) x7), (2, .ro (.int .i64) x2), (1, .ro (.sl 3 (.int .i64)) x1)], lkp none [(6, some ⟨68, .pr (.pr (.int .i64) (.pr (.sl 3 (.int .i64)) (.un))) (.un), [((x102000, (x102001, ())), ())], true⟩)], 0⟩ := by
     refine sind fun k ih0 x1 x2 x7 x102000 x102001 h => hX0 _ ?_
     clear hX0
     rcases k with _ | k
     ·cases h
     unfold gFPow.l0 at h
     replace h := hs_ h
     refine go_ ?_
     repeat' (first | split at h | (refine bnf h fun t e h => ?_; (repeat (first | refine fg_ ?_ | refine pg_ ?_ | refine qg_ ?_ | refine an_ ?_ | refine ip_ ?_ | refine in_ ?_)); refine ⟨_, (by first | exact gFOne_con e | exact gFMul_con e), ?_⟩; refine go_ ?_) | (refine bnf h fun t e h => ?_; (repeat (first | refine fg_ ?_ | refine pg_ ?_ | refine qg_ ?_ | refine an_ ?_ | refine ip_ ?_ | refine in_ ?_ | (refine ⟨_, (by first | exact gFOne_con ‹_› | exact gFMul_con ‹_›), ?_⟩; refine go_ ?_))); refine ⟨_, (by first | exact gFOne_con e | exact gFMul_con e), ?_⟩; refine go_ ?_) | fail)
     all_goals (first | ((repeat (first | refine fg_ ?_ | refine pg_ ?_ | refine qg_ ?_ | refine an_ ?_ | refine ip_ ?_ | refine in_ ?_ | (refine ⟨_, (by first | exact gFOne_con ‹_› | exact gFMul_con ‹_›), ?_⟩; refine go_ ?_))); exact ih0 _ (by omega) _ _ _ _ _ h) | (cases h <;> (repeat (first | refine fg_ ?_ | refine pg_ ?_ | refine qg_ ?_ | refine an_ ?_ | refine ip_ ?_ | refine in_ ?_ | (refine ⟨_, (by first | exact gFOne_con ‹_› | exact gFMul_con ‹_›), ?_⟩; refine go_ ?_))) <;> (first | done | rfl | trivial | (simp; done))))
    exact key _ _ _ _ _ _ h)
theorem gf_IsOne_con {l0 : List Int} {r : Bool} (h : gf_IsOne.f l0 = some r) : Con Try.prog 55 [⟨.sl 3 (.int .i64), l0⟩] [(false, ⟨.bool, r⟩)] := by
 refine con_ (ps := [0, 2]) (res := [(2, none)]) ?_ Try.func55 Try.ntmps55
 refine go_ ?_
 unfold gf_IsOne.f at h
 replace h := hs_ h
 repeat' (first | split at h | fail)
 all_goals (first | (cases h <;> (repeat (first | refine fg_ ?_ | refine pg_ ?_ | refine qg_ ?_ | refine an_ ?_ | refine ip_ ?_ | refine in_ ?_)) <;> (first | done | rfl | trivial | (simp; done))))
theorem gFGenerates_con {k : Nat} {a0_0 : Int} {l0_1 : List Int} {l1 : List Int} {a2 : Int} {r : Bool} (h : gFGenerates.f k a0_0 l0_1 l1 a2 = some r) : Con Try.prog 72 [⟨.pr (.pr (.int .i64) (.pr (.sl 3 (.int .i64)) (.un))) (.un), ((a0_0, (l0_1, ())), ())⟩, ⟨.sl 3 (.int .i64), l1⟩, ⟨.int .i64, a2⟩] [(false, ⟨.bool, r⟩)] := by
 refine con_ (ps := [0, 1, 2, 3, 6, 7, 10, 17, 18, 19, 20, 31]) (res := [(6, none)]) ?_ Try.func72 Try.ntmps72
 refine go_ ?_
 unfold gFGenerates.f at h
 replace h := hs_ h
 repeat' (first | split at h | (refine bnf h fun t e h => ?_; (repeat (first | refine fg_ ?_ | refine pg_ ?_ | refine qg_ ?_ | refine an_ ?_ | refine ip_ ?_ | refine in_ ?_)); refine ⟨_, (by first | exact rs_Factor_con e | exact gFPow_con e | exact gf_IsOne_con e), ?_⟩; refine go_ ?_) | (refine bnf h fun t e h => ?_; (repeat (first | refine fg_ ?_ | refine pg_ ?_ | refine qg_ ?_ | refine an_ ?_ | refine ip_ ?_ | refine in_ ?_ | (refine ⟨_, (by first | exact rs_Factor_con ‹_› | exact gFPow_con ‹_› | exact gf_IsOne_con ‹_›), ?_⟩; refine go_ ?_))); refine ⟨_, (by first | exact rs_Factor_con e | exact gFPow_con e | exact gf_IsOne_con e), ?_⟩; refine go_ ?_) | fail)
 all_goals first
  | (cases h <;> (repeat (first | refine fg_ ?_ | refine pg_ ?_ | refine qg_ ?_ | refine an_ ?_ | refine ip_ ?_ | refine in_ ?_ | (refine ⟨_, (by first | exact rs_Factor_con ‹_› | exact gFPow_con ‹_› | exact gf_IsOne_con ‹_›), ?_⟩; refine go_ ?_))) <;> (first | done | rfl | trivial | (simp; done)))
  | (
    (with_reducible have h : gFGenerates.l0 _ _ _ _ _ _ _ _ = some r := h)
    repeat (first | refine fg_ ?_ | refine pg_ ?_ | refine qg_ ?_ | refine an_ ?_ | refine ip_ ?_ | refine in_ ?_ | (refine ⟨_, (by first | exact rs_Factor_con ‹_› | exact gFPow_con ‹_› | exact gf_IsOne_con ‹_›), ?_⟩; refine go_ ?_))
    refine lp [(1, .row 3 (.int .i64)), (2, .keep), (17, .row 107 (.pr (.int .i64) (.pr (.int .i64) (.un)))), (18, .keep), (19, .keep), (3, .box)] fun X0 hX0 => ?_
    refine go_ ?_
    have key : ∀ k x1 x2 x17 x18 x19 x102000 x102001, gFGenerates.l0 k x1 x2 x17 x18 x19 x102000 x102001 = some r → X0 ⟨lkp .bot [(3, .ptr 6 0 []), (19, .ro (.int .i64) x19), (18, .ro (.int .i64) x18), (17, .ro (.sl 107 (.pr (.int .i64) (.pr (.int .i64) (.un)))) (List.map (fun s : S107 => (s.f0, (s.f1, ()))) x17)), (2, .ro (.int .i64) x2), (1, .ro (.sl 3 (.int .i64)) x1)], lkp none [(6, some ⟨68, .pr (.pr (.int .i64) (.pr (.sl 3 (.int .i64)) (.un))) (.un), [((x102000, (x102001, ())), ())], true⟩)], 0⟩ := by
     refine sind fun k ih0 x1 x2 x17 x18 x19 x102000 x102001 h => hX0 _ ?_
     clear hX0
     rcases k with _ | k
     ·cases h
     unfold gFGenerates.l0 at h
     replace h := hs_ h
     refine go_ ?_
     repeat' (first | split at h | (refine bnf h fun t e h => ?_; (repeat (first | refine fg_ ?_ | refine pg_ ?_ | refine qg_ ?_ | refine an_ ?_ | refine ip_ ?_ | refine in_ ?_)); refine ⟨_, (by first | exact rs_Factor_con e | exact gFPow_con e | exact gf_IsOne_con e), ?_⟩; refine go_ ?_) | (refine bnf h fun t e h => ?_; (repeat (first | refine fg_ ?_ | refine pg_ ?_ | refine qg_ ?_ | refine an_ ?_ | refine ip_ ?_ | refine in_ ?_ | (refine ⟨_, (by first | exact rs_Factor_con ‹_› | exact gFPow_con ‹_› | exact gf_IsOne_con ‹_›), ?_⟩; refine go_ ?_))); refine ⟨_, (by first | exact rs_Factor_con e | exact gFPow_con e | exact gf_IsOne_con e), ?_⟩; refine go_ ?_) | fail)
     all_goals (first | ((repeat (first | refine fg_ ?_ | refine pg_ ?_ | refine qg_ ?_ | refine an_ ?_ | refine ip_ ?_ | refine in_ ?_ | (refine ⟨_, (by first | exact rs_Factor_con ‹_› | exact gFPow_con ‹_› | exact gf_IsOne_con ‹_›), ?_⟩; refine go_ ?_))); exact ih0 _ (by omega) _ _ _ _ _ _ _ h) | (cases h <;> (repeat (first | refine fg_ ?_ | refine pg_ ?_ | refine qg_ ?_ | refine an_ ?_ | refine ip_ ?_ | refine in_ ?_ | (refine ⟨_, (by first | exact rs_Factor_con ‹_› | exact gFPow_con ‹_› | exact gf_IsOne_con ‹_›), ?_⟩; refine go_ ?_))) <;> (first | done | rfl | trivial | (simp; done))))
    exact key _ _ _ _ _ _ _ _ h)
theorem r15Degree_con {a0_0 : Int} {l0_1 : List Int} {r : Int} (h : r15Degree.f a0_0 l0_1 = some r) : Con Try.prog 50 [⟨.pr (.int .i64) (.pr (.sl 3 (.int .i64)) (.un)), (a0_0, (l0_1, ()))⟩] [(false, ⟨.int .i64, r⟩)] := by
 refine con_ (ps := [0, 1, 2]) (res := [(2, none)]) ?_ Try.func50 Try.ntmps50
 refine go_ ?_
 unfold r15Degree.f at h
 replace h := hs_ h
 repeat' (first | split at h | fail)
 all_goals (first | (cases h <;> (repeat (first | refine fg_ ?_ | refine pg_ ?_ | refine qg_ ?_ | refine an_ ?_ | refine ip_ ?_ | refine in_ ?_)) <;> (first | done | rfl | trivial | (simp; done))))
theorem r15Size_con {k : Nat} {a0_0 : Int} {l0_1 : List Int} {r : Int} (h : r15Size.f k a0_0 l0_1 = some r) : Con Try.prog 15 [⟨.pr (.int .i64) (.pr (.sl 3 (.int .i64)) (.un)), (a0_0, (l0_1, ()))⟩] [(false, ⟨.int .i64, r⟩)] := by
 refine con_ (ps := [0, 1, 2, 3, 4, 8, 15]) (res := [(2, none)]) ?_ Try.func15 Try.ntmps15
 refine go_ ?_
 unfold r15Size.f at h
 replace h := hs_ h
 repeat' (first | split at h | (refine bnf h fun t e h => ?_; (repeat (first | refine fg_ ?_ | refine pg_ ?_ | refine qg_ ?_ | refine an_ ?_ | refine ip_ ?_ | refine in_ ?_)); refine ⟨_, (by first | exact r15Degree_con e), ?_⟩; refine go_ ?_) | (refine bnf h fun t e h => ?_; (repeat (first | refine fg_ ?_ | refine pg_ ?_ | refine qg_ ?_ | refine an_ ?_ | refine ip_ ?_ | refine in_ ?_ | (refine ⟨_, (by first | exact r15Degree_con ‹_›), ?_⟩; refine go_ ?_))); refine ⟨_, (by first | exact r15Degree_con e), ?_⟩; refine go_ ?_) | fail)
 all_goals first
  | (cases h <;> (repeat (first | refine fg_ ?_ | refine pg_ ?_ | refine qg_ ?_ | refine an_ ?_ | refine ip_ ?_ | refine in_ ?_ | (refine ⟨_, (by first | exact r15Degree_con ‹_›), ?_⟩; refine go_ ?_))) <;> (first | done | rfl | trivial | (simp; done)))
  | (
    (with_reducible have h : r15Size.l0 _ _ _ _ _ = some r := h)
    repeat (first | refine fg_ ?_ | refine pg_ ?_ | refine qg_ ?_ | refine an_ ?_ | refine ip_ ?_ | refine in_ ?_ | (refine ⟨_, (by first | exact r15Degree_con ‹_›), ?_⟩; refine go_ ?_))
    refine lp [(3, .keep), (4, .keep), (1, .box)] fun X0 hX0 => ?_
    refine go_ ?_
    have key : ∀ k x3 x4 x102000 x102001, r15Size.l0 k x3 x4 x102000 x102001 = some r → X0 ⟨lkp .bot [(1, .ptr 2 0 []), (4, .ro (.int .i64) x4), (3, .ro (.int .i64) x3)], lkp none [(2, some ⟨33, .pr (.int .i64) (.pr (.sl 3 (.int .i64)) (.un)), [(x102000, (x102001, ()))], true⟩)], 0⟩ := by
     refine sind fun k ih0 x3 x4 x102000 x102001 h => hX0 _ ?_
     clear hX0
     rcases k with _ | k
     ·cases h
     unfold r15Size.l0 at h
     replace h := hs_ h
     refine go_ ?_
     repeat' (first | split at h | (refine bnf h fun t e h => ?_; (repeat (first | refine fg_ ?_ | refine pg_ ?_ | refine qg_ ?_ | refine an_ ?_ | refine ip_ ?_ | refine in_ ?_)); refine ⟨_, (by first | exact r15Degree_con e), ?_⟩; refine go_ ?_) | (refine bnf h fun t e h => ?_; (repeat (first | refine fg_ ?_ | refine pg_ ?_ | refine qg_ ?_ | refine an_ ?_ | refine ip_ ?_ | refine in_ ?_ | (refine ⟨_, (by first | exact r15Degree_con ‹_›), ?_⟩; refine go_ ?_))); refine ⟨_, (by first | exact r15Degree_con e), ?_⟩; refine go_ ?_) | fail)
     all_goals (first | ((repeat (first | refine fg_ ?_ | refine pg_ ?_ | refine qg_ ?_ | refine an_ ?_ | refine ip_ ?_ | refine in_ ?_ | (refine ⟨_, (by first | exact r15Degree_con ‹_›), ?_⟩; refine go_ ?_))); exact ih0 _ (by omega) _ _ _ _ h) | (cases h <;> (repeat (first | refine fg_ ?_ | refine pg_ ?_ | refine qg_ ?_ | refine an_ ?_ | refine ip_ ?_ | refine in_ ?_ | (refine ⟨_, (by first | exact r15Degree_con ‹_›), ?_⟩; refine go_ ?_))) <;> (first | done | rfl | trivial | (simp; done))))
    exact key _ _ _ _ _ h)
theorem r1pack_con {k : Nat} {l0 : List Int} {r : ByteArray} (h : r1pack.f k l0 = some r) : Con Try.prog 100 [⟨.sl 84 (.int .u64), l0⟩] [(false, ⟨.str, r⟩)] := by
 refine con_ (ps := [0, 2, 3, 4, 5, 6, 11, 15, 31]) (res := [(2, none)]) ?_ Try.func100 Try.ntmps100
 refine go_ ?_
 unfold r1pack.f at h
 replace h := hs_ h
 repeat' (first | split at h | fail)
 all_goals first
  | (cases h <;> (repeat (first | refine fg_ ?_ | refine pg_ ?_ | refine qg_ ?_ | refine an_ ?_ | refine ip_ ?_ | refine in_ ?_)) <;> (first | done | rfl | trivial | (simp; done)))
  | (
    (with_reducible have h : r1pack.l0 _ _ _ _ = some r := h)
    repeat (first | refine fg_ ?_ | refine pg_ ?_ | refine qg_ ?_ | refine an_ ?_ | refine ip_ ?_ | refine in_ ?_)
    refine lp [(0, .row 84 (.int .u64)), (3, .own 5 (.int .u8)), (4, .keep)] fun X0 hX0 => ?_
    refine go_ ?_
    have key : ∀ k x0 x3 x4, r1pack.l0 k x0 x3 x4 = some r → X0 ⟨lkp .bot [(4, .ro (.int .i64) x4), (3, .own 6), (0, .ro (.sl 84 (.int .u64)) x0)], lkp none [(6, some ⟨5, .int .u8, x3, true⟩)], 0⟩ := by
     refine sind fun k ih0 x0 x3 x4 h => hX0 _ ?_
     clear hX0
     rcases k with _ | k
     ·cases h
     unfold r1pack.l0 at h
     replace h := hs_ h
     refine go_ ?_
     repeat' (first | split at h | fail)
     all_goals first
      | ((repeat (first | refine fg_ ?_ | refine pg_ ?_ | refine qg_ ?_ | refine an_ ?_ | refine ip_ ?_ | refine in_ ?_)); exact ih0 _ (by omega) _ _ _ h)
      | (cases h <;> (repeat (first | refine fg_ ?_ | refine pg_ ?_ | refine qg_ ?_ | refine an_ ?_ | refine ip_ ?_ | refine in_ ?_)) <;> (first | done | rfl | trivial | (simp; done)))
      | (
       (with_reducible have h : r1pack.l1 _ _ _ _ _ = some r := h)
       repeat (first | refine fg_ ?_ | refine pg_ ?_ | refine qg_ ?_ | refine an_ ?_ | refine ip_ ?_ | refine in_ ?_)
       refine lp [(0, .row 84 (.int .u64)), (3, .own 5 (.int .u8)), (4, .keep), (5, .keep)] fun X1 hX1 => ?_
       refine go_ ?_
       have key : ∀ j, j ≤ k → ∀ x0 x3 x4 x5, r1pack.l1 j x0 x3 x4 x5 = some r → X1 ⟨lkp .bot [(5, .ro (.int .i64) x5), (4, .ro (.int .i64) x4), (3, .own 6), (0, .ro (.sl 84 (.int .u64)) x0)], lkp none [(6, some ⟨5, .int .u8, x3, true⟩)], 0⟩ := by
        refine sinb fun k hk1 ih1 x0 x3 x4 x5 h => hX1 _ ?_
        clear hX1
        rcases k with _ | k
        ·cases h
        unfold r1pack.l1 at h
        replace h := hs_ h
        refine go_ ?_
        repeat' (first | split at h | fail)
        all_goals (first | ((repeat (first | refine fg_ ?_ | refine pg_ ?_ | refine qg_ ?_ | refine an_ ?_ | refine ip_ ?_ | refine in_ ?_)); exact ih1 _ (by omega) _ _ _ _ h) | ((repeat (first | refine fg_ ?_ | refine pg_ ?_ | refine qg_ ?_ | refine an_ ?_ | refine ip_ ?_ | refine in_ ?_)); exact ih0 _ (by omega) _ _ _ h) | (cases h <;> (repeat (first | refine fg_ ?_ | refine pg_ ?_ | refine qg_ ?_ | refine an_ ?_ | refine ip_ ?_ | refine in_ ?_)) <;> (first | done | rfl | trivial | (simp; done))))
       exact key _ (by omega) _ _ _ _ h)
    exact key _ _ _ _ h)
theorem r1Of_con {k : Nat} {a0 : Int} {r : ByteArray} (h : r1Of.f k a0 = some r) : Con Try.prog 70 [⟨.int .u64, a0⟩] [(false, ⟨.str, r⟩)] := by
 refine con_ (ps := [0, 2]) (res := [(2, none)]) ?_ Try.func70 Try.ntmps70
 refine go_ ?_
 unfold r1Of.f at h
 replace h := hs_ h
 repeat' (first | split at h | (refine bnf h fun t e h => ?_; (repeat (first | refine fg_ ?_ | refine pg_ ?_ | refine qg_ ?_ | refine an_ ?_ | refine ip_ ?_ | refine in_ ?_)); refine ⟨_, (by first | exact r1pack_con e), ?_⟩; refine go_ ?_) | (refine bnf h fun t e h => ?_; (repeat (first | refine fg_ ?_ | refine pg_ ?_ | refine qg_ ?_ | refine an_ ?_ | refine ip_ ?_ | refine in_ ?_ | (refine ⟨_, (by first | exact r1pack_con ‹_›), ?_⟩; refine go_ ?_))); refine ⟨_, (by first | exact r1pack_con e), ?_⟩; refine go_ ?_) | fail)
 all_goals (first | (cases h <;> (repeat (first | refine fg_ ?_ | refine pg_ ?_ | refine qg_ ?_ | refine an_ ?_ | refine ip_ ?_ | refine in_ ?_ | (refine ⟨_, (by first | exact r1pack_con ‹_›), ?_⟩; refine go_ ?_))) <;> (first | done | rfl | trivial | (simp; done))))
theorem r1FromInt_con {k : Nat} {a0 : Int} {r : ByteArray} (h : r1FromInt.f k a0 = some r) : Con Try.prog 35 [⟨.int .i64, a0⟩] [(false, ⟨.str, r⟩)] := by
 refine con_ (ps := [0, 2]) (res := [(2, none)]) ?_ Try.func35 Try.ntmps35
 refine go_ ?_
 unfold r1FromInt.f at h
 replace h := hs_ h
 repeat' (first | split at h | (refine bnf h fun t e h => ?_; (repeat (first | refine fg_ ?_ | refine pg_ ?_ | refine qg_ ?_ | refine an_ ?_ | refine ip_ ?_ | refine in_ ?_)); refine ⟨_, (by first | exact r1Of_con e), ?_⟩; refine go_ ?_) | (refine bnf h fun t e h => ?_; (repeat (first | refine fg_ ?_ | refine pg_ ?_ | refine qg_ ?_ | refine an_ ?_ | refine ip_ ?_ | refine in_ ?_ | (refine ⟨_, (by first | exact r1Of_con ‹_›), ?_⟩; refine go_ ?_))); refine ⟨_, (by first | exact r1Of_con e), ?_⟩; refine go_ ?_) | fail)
 all_goals (first | (cases h <;> (repeat (first | refine fg_ ?_ | refine pg_ ?_ | refine qg_ ?_ | refine an_ ?_ | refine ip_ ?_ | refine in_ ?_ | (refine ⟨_, (by first | exact r1Of_con ‹_›), ?_⟩; refine go_ ?_))) <;> (first | done | rfl | trivial | (simp; done))))
theorem r9Trim_con {k : Nat} {l0 : List Int} {r : List Int} (h : r9Trim.f k l0 = some r) : Con Try.prog 41 [⟨.sl 3 (.int .i64), l0⟩] [(false, ⟨.sl 3 (.int .i64), r⟩)] := by
 refine con_ (ps := [0, 2, 14]) (res := [(2, none)]) ?_ Try.func41 Try.ntmps41
 refine go_ ?_
 unfold r9Trim.f at h
 replace h := hs_ h
 repeat' (first | split at h | fail)
 all_goals first
  | (cases h <;> (repeat (first | refine fg_ ?_ | refine pg_ ?_ | refine qg_ ?_ | refine an_ ?_ | refine ip_ ?_ | refine in_ ?_)) <;> (first | done | rfl | trivial | (simp; done)))
  | (
    (with_reducible have h : r9Trim.l0 _ _ = some r := h)
    repeat (first | refine fg_ ?_ | refine pg_ ?_ | refine qg_ ?_ | refine an_ ?_ | refine ip_ ?_ | refine in_ ?_)
    refine lp [(0, .row 3 (.int .i64))] fun X0 hX0 => ?_
    refine go_ ?_
    have key : ∀ k x0, r9Trim.l0 k x0 = some r → X0 ⟨lkp .bot [(0, .ro (.sl 3 (.int .i64)) x0)], lkp none [], 0⟩ := by
     refine sind fun k ih0 x0 h => hX0 _ ?_
     clear hX0
     rcases k with _ | k
     ·cases h
     unfold r9Trim.l0 at h
     replace h := hs_ h
     refine go_ ?_
     repeat' (first | split at h | fail)
     all_goals (first | ((repeat (first | refine fg_ ?_ | refine pg_ ?_ | refine qg_ ?_ | refine an_ ?_ | refine ip_ ?_ | refine in_ ?_)); exact ih0 _ (by omega) _ h) | (cases h <;> (repeat (first | refine fg_ ?_ | refine pg_ ?_ | refine qg_ ?_ | refine an_ ?_ | refine ip_ ?_ | refine in_ ?_)) <;> (first | done | rfl | trivial | (simp; done))))
    exact key _ _ h)
theorem r9Add_con {k : Nat} {a0 : Int} {l1 : List Int} {l2 : List Int} {r : List Int} (h : r9Add.f k a0 l1 l2 = some r) : Con Try.prog 64 [⟨.int .i64, a0⟩, ⟨.sl 3 (.int .i64), l1⟩, ⟨.sl 3 (.int .i64), l2⟩] [(false, ⟨.sl 3 (.int .i64), r⟩)] := by
 refine con_ (ps := [0, 1, 2, 6, 7, 8, 18, 24, 40]) (res := [(6, none)]) ?_ Try.func64 Try.ntmps64
 refine go_ ?_
 unfold r9Add.f at h
 replace h := hs_ h
 repeat' (first | split at h | (refine bnf h fun t e h => ?_; (repeat (first | refine fg_ ?_ | refine pg_ ?_ | refine qg_ ?_ | refine an_ ?_ | refine ip_ ?_ | refine in_ ?_)); refine ⟨_, (by first | exact r9Trim_con e), ?_⟩; refine go_ ?_) | (refine bnf h fun t e h => ?_; (repeat (first | refine fg_ ?_ | refine pg_ ?_ | refine qg_ ?_ | refine an_ ?_ | refine ip_ ?_ | refine in_ ?_ | (refine ⟨_, (by first | exact r9Trim_con ‹_›), ?_⟩; refine go_ ?_))); refine ⟨_, (by first | exact r9Trim_con e), ?_⟩; refine go_ ?_) | fail)
 all_goals first
  | (cases h <;> (repeat (first | refine fg_ ?_ | refine pg_ ?_ | refine qg_ ?_ | refine an_ ?_ | refine ip_ ?_ | refine in_ ?_ | (refine ⟨_, (by first | exact r9Trim_con ‹_›), ?_⟩; refine go_ ?_))) <;> (first | done | rfl | trivial | (simp; done)))
  | (
    (with_reducible have h : r9Add.l0 _ _ _ _ _ _ = some r := h)
    repeat (first | refine fg_ ?_ | refine pg_ ?_ | refine qg_ ?_ | refine an_ ?_ | refine ip_ ?_ | refine in_ ?_ | (refine ⟨_, (by first | exact r9Trim_con ‹_›), ?_⟩; refine go_ ?_))
    refine lp [(0, .keep), (1, .row 3 (.int .i64)), (2, .row 3 (.int .i64)), (7, .own 3 (.int .i64)), (8, .keep)] fun X0 hX0 => ?_
    refine go_ ?_
    have key : ∀ k x0 x1 x2 x7 x8, r9Add.l0 k x0 x1 x2 x7 x8 = some r → X0 ⟨lkp .bot [(8, .ro (.int .i64) x8), (7, .own 14), (2, .ro (.sl 3 (.int .i64)) x2), (1, .ro (.sl 3 (.int .i64)) x1), (0, .ro (.int .i64) x0)], lkp none [(14, some ⟨3, .int .i64, x7, true⟩)], 0⟩ := by
     refine sind fun k ih0 x0 x1 x2 x7 x8 h => hX0 _ ?_
     clear hX0
     rcases k with _ | k
     ·cases h
     unfold r9Add.l0 at h
     replace h := hs_ h
     refine go_ ?_
     repeat' (first | split at h | (refine bnf h fun t e h => ?_; (repeat (first | refine fg_ ?_ | refine pg_ ?_ | refine qg_ ?_ | refine an_ ?_ | refine ip_ ?_ | refine in_ ?_)); refine ⟨_, (by first | exact r9Trim_con e), ?_⟩; refine go_ ?_) | (refine bnf h fun t e h => ?_; (repeat (first | refine fg_ ?_ | refine pg_ ?_ | refine qg_ ?_ | refine an_ ?_ | refine ip_ ?_ | refine in_ ?_ | (refine ⟨_, (by first | exact r9Trim_con ‹_›), ?_⟩; refine go_ ?_))); refine ⟨_, (by first | exact r9Trim_con e), ?_⟩; refine go_ ?_) | fail)
     all_goals (first | ((repeat (first | refine fg_ ?_ | refine pg_ ?_ | refine qg_ ?_ | refine an_ ?_ | refine ip_ ?_ | refine in_ ?_ | (refine ⟨_, (by first | exact r9Trim_con ‹_›), ?_⟩; refine go_ ?_))); exact ih0 _ (by omega) _ _ _ _ _ h) | (cases h <;> (repeat (first | refine fg_ ?_ | refine pg_ ?_ | refine qg_ ?_ | refine an_ ?_ | refine ip_ ?_ | refine in_ ?_ | (refine ⟨_, (by first | exact r9Trim_con ‹_›), ?_⟩; refine go_ ?_))) <;> (first | done | rfl | trivial | (simp; done))))
    exact key _ _ _ _ _ _ h)
theorem r4Mod_con {a0 : Int} {a1 : Int} {r : Int} (h : r4Mod.f a0 a1 = some r) : Con Try.prog 113 [⟨.int .i64, a0⟩, ⟨.int .i64, a1⟩] [(false, ⟨.int .i64, r⟩)] := by
 refine con_ (ps := [0, 1, 4]) (res := [(4, none)]) ?_ Try.func113 Try.ntmps113
 refine go_ ?_
 unfold r4Mod.f at h
 replace h := hs_ h
 repeat' (first | split at h | fail)
 all_goals (first | (cases h <;> (repeat (first | refine fg_ ?_ | refine pg_ ?_ | refine qg_ ?_ | refine an_ ?_ | refine ip_ ?_ | refine in_ ?_)) <;> (first | done | rfl | trivial | (simp; done))))
theorem r9Copy_con {l0 : List Int} {r : List Int} (h : r9Copy.f l0 = some r) : Con Try.prog 47 [⟨.sl 3 (.int .i64), l0⟩] [(true, ⟨.sl 3 (.int .i64), r⟩)] := by
 refine con_ (ps := [0, 2]) (res := [(2, none)]) ?_ Try.func47 Try.ntmps47
 refine go_ ?_
 unfold r9Copy.f at h
 replace h := hs_ h
 repeat' (first | split at h | fail)
 all_goals (first | (cases h <;> (repeat (first | refine fg_ ?_ | refine pg_ ?_ | refine qg_ ?_ | refine an_ ?_ | refine ip_ ?_ | refine in_ ?_)) <;> (first | done | rfl | trivial | (simp; done))))
theorem r9Scale_con {k : Nat} {a0 : Int} {l1 : List Int} {a2 : Int} {r : List Int} (h : r9Scale.f k a0 l1 a2 = some r) : Con Try.prog 96 [⟨.int .i64, a0⟩, ⟨.sl 3 (.int .i64), l1⟩, ⟨.int .i64, a2⟩] [(false, ⟨.sl 3 (.int .i64), r⟩)] := by
 refine con_ (ps := [0, 1, 2, 6, 7, 8, 17]) (res := [(6, none)]) ?_ Try.func96 Try.ntmps96
 refine go_ ?_
 unfold r9Scale.f at h
 replace h := hs_ h
 repeat' (first | split at h | (refine bnf h fun t e h => ?_; (repeat (first | refine fg_ ?_ | refine pg_ ?_ | refine qg_ ?_ | refine an_ ?_ | refine ip_ ?_ | refine in_ ?_)); refine ⟨_, (by first | exact r4Mod_con e | exact r9Copy_con e | exact r9Trim_con e), ?_⟩; refine go_ ?_) | (refine bnf h fun t e h => ?_; (repeat (first | refine fg_ ?_ | refine pg_ ?_ | refine qg_ ?_ | refine an_ ?_ | refine ip_ ?_ | refine in_ ?_ | (refine ⟨_, (by first | exact r4Mod_con ‹_› | exact r9Copy_con ‹_› | exact r9Trim_con ‹_›), ?_⟩; refine go_ ?_))); refine ⟨_, (by first | exact r4Mod_con e | exact r9Copy_con e | exact r9Trim_con e), ?_⟩; refine go_ ?_) | fail)
 all_goals first
  | (cases h <;> (repeat (first | refine fg_ ?_ | refine pg_ ?_ | refine qg_ ?_ | refine an_ ?_ | refine ip_ ?_ | refine in_ ?_ | (refine ⟨_, (by first | exact r4Mod_con ‹_› | exact r9Copy_con ‹_› | exact r9Trim_con ‹_›), ?_⟩; refine go_ ?_))) <;> (first | done | rfl | trivial | (simp; done)))
  | (
    (with_reducible have h : r9Scale.l0 _ _ _ _ _ = some r := h)
    repeat (first | refine fg_ ?_ | refine pg_ ?_ | refine qg_ ?_ | refine an_ ?_ | refine ip_ ?_ | refine in_ ?_ | (refine ⟨_, (by first | exact r4Mod_con ‹_› | exact r9Copy_con ‹_› | exact r9Trim_con ‹_›), ?_⟩; refine go_ ?_))
    refine lp [(0, .keep), (2, .keep), (7, .own 3 (.int .i64)), (8, .keep)] fun X0 hX0 => ?_
    refine go_ ?_
    have key : ∀ k x0 x2 x7 x8, r9Scale.l0 k x0 x2 x7 x8 = some r → X0 ⟨lkp .bot [(8, .ro (.int .i64) x8), (7, .own 14), (2, .ro (.int .i64) x2), (0, .ro (.int .i64) x0)], lkp none [(14, some ⟨3, .int .i64, x7, true⟩)], 0⟩ := by
     refine sind fun k ih0 x0 x2 x7 x8 h => hX0 _ ?_
     clear hX0
     rcases k with _ | k
     ·cases h
     unfold r9Scale.l0 at h
     replace h := hs_ h
     refine go_ ?_
     repeat' (first | split at h | (refine bnf h fun t e h => ?_; (repeat (first | refine fg_ ?_ | refine pg_ ?_ | refine qg_ ?_ | refine an_ ?_ | refine ip_ ?_ | refine in_ ?_)); refine ⟨_, (by first | exact r4Mod_con e | exact r9Copy_con e | exact r9Trim_con e), ?_⟩; refine go_ ?_) | (refine bnf h fun t e h => ?_; (repeat (first | refine fg_ ?_ | refine pg_ ?_ | refine qg_ ?_ | refine an_ ?_ | refine ip_ ?_ | refine in_ ?_ | (refine ⟨_, (by first | exact r4Mod_con ‹_› | exact r9Copy_con ‹_› | exact r9Trim_con ‹_›), ?_⟩; refine go_ ?_))); refine ⟨_, (by first | exact r4Mod_con e | exact r9Copy_con e | exact r9Trim_con e), ?_⟩; refine go_ ?_) | fail)
     all_goals (first | ((repeat (first | refine fg_ ?_ | refine pg_ ?_ | refine qg_ ?_ | refine an_ ?_ | refine ip_ ?_ | refine in_ ?_ | (refine ⟨_, (by first | exact r4Mod_con ‹_› | exact r9Copy_con ‹_› | exact r9Trim_con ‹_›), ?_⟩; refine go_ ?_))); exact ih0 _ (by omega) _ _ _ _ h) | (cases h <;> (repeat (first | refine fg_ ?_ | refine pg_ ?_ | refine qg_ ?_ | refine an_ ?_ | refine ip_ ?_ | refine in_ ?_ | (refine ⟨_, (by first | exact r4Mod_con ‹_› | exact r9Copy_con ‹_› | exact r9Trim_con ‹_›), ?_⟩; refine go_ ?_))) <;> (first | done | rfl | trivial | (simp; done))))
    exact key _ _ _ _ _ h)
theorem r9Sub_con {k : Nat} {a0 : Int} {l1 : List Int} {l2 : List Int} {r : List Int} (h : r9Sub.f k a0 l1 l2 = some r) : Con Try.prog 65 [⟨.int .i64, a0⟩, ⟨.sl 3 (.int .i64), l1⟩, ⟨.sl 3 (.int .i64), l2⟩] [(false, ⟨.sl 3 (.int .i64), r⟩)] := by
 refine con_ (ps := [0, 1, 2, 6]) (res := [(6, none)]) ?_ Try.func65 Try.ntmps65
 refine go_ ?_
 unfold r9Sub.f at h
 replace h := hs_ h
 repeat' (first | split at h | (refine bnf h fun t e h => ?_; (repeat (first | refine fg_ ?_ | refine pg_ ?_ | refine qg_ ?_ | refine an_ ?_ | refine ip_ ?_ | refine in_ ?_)); refine ⟨_, (by first | exact r9Scale_con e | exact r9Add_con e), ?_⟩; refine go_ ?_) | (refine bnf h fun t e h => ?_; (repeat (first | refine fg_ ?_ | refine pg_ ?_ | refine qg_ ?_ | refine an_ ?_ | refine ip_ ?_ | refine in_ ?_ | (refine ⟨_, (by first | exact r9Scale_con ‹_› | exact r9Add_con ‹_›), ?_⟩; refine go_ ?_))); refine ⟨_, (by first | exact r9Scale_con e | exact r9Add_con e), ?_⟩; refine go_ ?_) | fail)
 all_goals (first | (cases h <;> (repeat (first | refine fg_ ?_ | refine pg_ ?_ | refine qg_ ?_ | refine an_ ?_ | refine ip_ ?_ | refine in_ ?_ | (refine ⟨_, (by first | exact r9Scale_con ‹_› | exact r9Add_con ‹_›), ?_⟩; refine go_ ?_))) <;> (first | done | rfl | trivial | (simp; done))))
theorem r4Inverse_con {k : Nat} {a0 : Int} {a1 : Int} {r : Int} (h : r4Inverse.f k a0 a1 = some r) : Con Try.prog 120 [⟨.int .i64, a0⟩, ⟨.int .i64, a1⟩] [(false, ⟨.int .i64, r⟩)] := by
 refine con_ (ps := [0, 1, 4, 5, 6, 7, 8, 9, 15]) (res := [(4, none)]) ?_ Try.func120 Try.ntmps120
 refine go_ ?_
 unfold r4Inverse.f at h
 replace h := hs_ h
 repeat' (first | split at h | (refine bnf h fun t e h => ?_; (repeat (first | refine fg_ ?_ | refine pg_ ?_ | refine qg_ ?_ | refine an_ ?_ | refine ip_ ?_ | refine in_ ?_)); refine ⟨_, (by first | exact r4Mod_con e), ?_⟩; refine go_ ?_) | (refine bnf h fun t e h => ?_; (repeat (first | refine fg_ ?_ | refine pg_ ?_ | refine qg_ ?_ | refine an_ ?_ | refine ip_ ?_ | refine in_ ?_ | (refine ⟨_, (by first | exact r4Mod_con ‹_›), ?_⟩; refine go_ ?_))); refine ⟨_, (by first | exact r4Mod_con e), ?_⟩; refine go_ ?_) | fail)
 all_goals first
  | (cases h <;> (repeat (first | refine fg_ ?_ | refine pg_ ?_ | refine qg_ ?_ | refine an_ ?_ | refine ip_ ?_ | refine in_ ?_ | (refine ⟨_, (by first | exact r4Mod_con ‹_›), ?_⟩; refine go_ ?_))) <;> (first | done | rfl | trivial | (simp; done)))
  | (
    (with_reducible have h : r4Inverse.l0 _ _ _ _ _ _ = some r := h)
    repeat (first | refine fg_ ?_ | refine pg_ ?_ | refine qg_ ?_ | refine an_ ?_ | refine ip_ ?_ | refine in_ ?_ | (refine ⟨_, (by first | exact r4Mod_con ‹_›), ?_⟩; refine go_ ?_))
    refine lp [(1, .keep), (5, .keep), (6, .keep), (7, .keep), (8, .keep)] fun X0 hX0 => ?_
    refine go_ ?_
    have key : ∀ k x1 x5 x6 x7 x8, r4Inverse.l0 k x1 x5 x6 x7 x8 = some r → X0 ⟨lkp .bot [(8, .ro (.int .i64) x8), (7, .ro (.int .i64) x7), (6, .ro (.int .i64) x6), (5, .ro (.int .i64) x5), (1, .ro (.int .i64) x1)], lkp none [], 0⟩ := by
     refine sind fun k ih0 x1 x5 x6 x7 x8 h => hX0 _ ?_
     clear hX0
     rcases k with _ | k
     ·cases h
     unfold r4Inverse.l0 at h
     replace h := hs_ h
     refine go_ ?_
     repeat' (first | split at h | (refine bnf h fun t e h => ?_; (repeat (first | refine fg_ ?_ | refine pg_ ?_ | refine qg_ ?_ | refine an_ ?_ | refine ip_ ?_ | refine in_ ?_)); refine ⟨_, (by first | exact r4Mod_con e), ?_⟩; refine go_ ?_) | (refine bnf h fun t e h => ?_; (repeat (first | refine fg_ ?_ | refine pg_ ?_ | refine qg_ ?_ | refine an_ ?_ | refine ip_ ?_ | refine in_ ?_ | (refine ⟨_, (by first | exact r4Mod_con ‹_›), ?_⟩; refine go_ ?_))); refine ⟨_, (by first | exact r4Mod_con e), ?_⟩; refine go_ ?_) | fail)
     all_goals (first | ((repeat (first | refine fg_ ?_ | refine pg_ ?_ | refine qg_ ?_ | refine an_ ?_ | refine ip_ ?_ | refine in_ ?_ | (refine ⟨_, (by first | exact r4Mod_con ‹_›), ?_⟩; refine go_ ?_))); exact ih0 _ (by omega) _ _ _ _ _ h) | (cases h <;> (repeat (first | refine fg_ ?_ | refine pg_ ?_ | refine qg_ ?_ | refine an_ ?_ | refine ip_ ?_ | refine in_ ?_ | (refine ⟨_, (by first | exact r4Mod_con ‹_›), ?_⟩; refine go_ ?_))) <;> (first | done | rfl | trivial | (simp; done))))
    exact key _ _ _ _ _ _ h)
theorem r9DivMod_con {k : Nat} {a0 : Int} {l1 : List Int} {l2 : List Int} {r1 : List Int} {r2 : List Int} (h : r9DivMod.f k a0 l1 l2 = some (r1, r2)) : Con Try.prog 108 [⟨.int .i64, a0⟩, ⟨.sl 3 (.int .i64), l1⟩, ⟨.sl 3 (.int .i64), l2⟩] [(false, ⟨.sl 3 (.int .i64), r1⟩), (false, ⟨.sl 3 (.int .i64), r2⟩)] := by
 refine con_ (ps := [0, 1, 2, 6, 7, 8, 9, 10, 11, 12, 13, 14, 36, 55]) (res := [(6, none), (7, none)]) ?_ Try.func108 Try.ntmps108
 refine go_ ?_
 unfold r9DivMod.f at h
 replace h := hs_ h
 repeat' (first | split at h | (refine bnf h fun t e h => ?_; (repeat (first | refine fg_ ?_ | refine pg_ ?_ | refine qg_ ?_ | refine an_ ?_ | refine ip_ ?_ | refine in_ ?_)); refine ⟨_, (by first | exact r9Copy_con e | exact r4Inverse_con e | exact r9Trim_con e), ?_⟩; refine go_ ?_) | (refine bnf h fun t e h => ?_; (repeat (first | refine fg_ ?_ | refine pg_ ?_ | refine qg_ ?_ | refine an_ ?_ | refine ip_ ?_ | refine in_ ?_ | (refine ⟨_, (by first | exact r9Copy_con ‹_› | exact r4Inverse_con ‹_› | exact r9Trim_con ‹_›), ?_⟩; refine go_ ?_))); refine ⟨_, (by first | exact r9Copy_con e | exact r4Inverse_con e | exact r9Trim_con e), ?_⟩; refine go_ ?_) | fail)
 all_goals first
  | (cases h <;> (repeat (first | refine fg_ ?_ | refine pg_ ?_ | refine qg_ ?_ | refine an_ ?_ | refine ip_ ?_ | refine in_ ?_ | (refine ⟨_, (by first | exact r9Copy_con ‹_› | exact r4Inverse_con ‹_› | exact r9Trim_con ‹_›), ?_⟩; refine go_ ?_))) <;> (first | done | rfl | trivial | (simp; done)))
  | (
    (with_reducible have h : r9DivMod.l0 _ _ _ _ _ _ _ _ = some (r1, r2) := h)
    repeat (first | refine fg_ ?_ | refine pg_ ?_ | refine qg_ ?_ | refine an_ ?_ | refine ip_ ?_ | refine in_ ?_ | (refine ⟨_, (by first | exact r9Copy_con ‹_› | exact r4Inverse_con ‹_› | exact r9Trim_con ‹_›), ?_⟩; refine go_ ?_))
    refine lp [(0, .keep), (2, .row 3 (.int .i64)), (8, .own 3 (.int .i64)), (9, .keep), (10, .own 3 (.int .i64)), (11, .keep), (12, .keep)] fun X0 hX0 => ?_
    refine go_ ?_
    have key : ∀ k x0 x2 x8 x9 x10 x11 x12, r9DivMod.l0 k x0 x2 x8 x9 x10 x11 x12 = some (r1, r2) → X0 ⟨lkp .bot [(12, .ro (.int .i64) x12), (11, .ro (.int .i64) x11), (10, .own 20), (9, .ro (.int .i64) x9), (8, .own 16), (2, .ro (.sl 3 (.int .i64)) x2), (0, .ro (.int .i64) x0)], lkp none [(20, some ⟨3, .int .i64, x10, true⟩), (16, some ⟨3, .int .i64, x8, true⟩)], 0⟩ := by
     refine sind fun k ih0 x0 x2 x8 x9 x10 x11 x12 h => hX0 _ ?_
     clear hX0
     rcases k with _ | k
     ·cases h
     unfold r9DivMod.l0 at h
     replace h := hs_ h
     refine go_ ?_
     repeat' (first | split at h | (refine bnf h fun t e h => ?_; (repeat (first | refine fg_ ?_ | refine pg_ ?_ | refine qg_ ?_ | refine an_ ?_ | refine ip_ ?_ | refine in_ ?_)); refine ⟨_, (by first | exact r9Copy_con e | exact r4Inverse_con e | exact r9Trim_con e), ?_⟩; refine go_ ?_) | (refine bnf h fun t e h => ?_; (repeat (first | refine fg_ ?_ | refine pg_ ?_ | refine qg_ ?_ | refine an_ ?_ | refine ip_ ?_ | refine in_ ?_ | (refine ⟨_, (by first | exact r9Copy_con ‹_› | exact r4Inverse_con ‹_› | exact r9Trim_con ‹_›), ?_⟩; refine go_ ?_))); refine ⟨_, (by first | exact r9Copy_con e | exact r4Inverse_con e | exact r9Trim_con e), ?_⟩; refine go_ ?_) | fail)
     all_goals first
      | ((repeat (first | refine fg_ ?_ | refine pg_ ?_ | refine qg_ ?_ | refine an_ ?_ | refine ip_ ?_ | refine in_ ?_ | (refine ⟨_, (by first | exact r9Copy_con ‹_› | exact r4Inverse_con ‹_› | exact r9Trim_con ‹_›), ?_⟩; refine go_ ?_))); exact ih0 _ (by omega) _ _ _ _ _ _ _ h)
      | (cases h <;> (repeat (first | refine fg_ ?_ | refine pg_ ?_ | refine qg_ ?_ | refine an_ ?_ | refine ip_ ?_ | refine in_ ?_ | (refine ⟨_, (by first | exact r9Copy_con ‹_› | exact r4Inverse_con ‹_› | exact r9Trim_con ‹_›), ?_⟩; refine go_ ?_))) <;> (first | done | rfl | trivial | (simp; done)))
      | (
       (with_reducible have h : r9DivMod.l1 _ _ _ _ _ _ _ _ _ _ = some (r1, r2) := h)
       repeat (first | refine fg_ ?_ | refine pg_ ?_ | refine qg_ ?_ | refine an_ ?_ | refine ip_ ?_ | refine in_ ?_ | (refine ⟨_, (by first | exact r9Copy_con ‹_› | exact r4Inverse_con ‹_› | exact r9Trim_con ‹_›), ?_⟩; refine go_ ?_))
       refine lp [(0, .keep), (2, .row 3 (.int .i64)), (8, .own 3 (.int .i64)), (9, .keep), (10, .own 3 (.int .i64)), (11, .keep), (12, .keep), (13, .keep), (14, .keep)] fun X1 hX1 => ?_
       refine go_ ?_
       have key : ∀ j, j ≤ k → ∀ x0 x2 x8 x9 x10 x11 x12 x13 x14, r9DivMod.l1 j x0 x2 x8 x9 x10 x11 x12 x13 x14 = some (r1, r2) → X1 ⟨lkp .bot [(14, .ro (.int .i64) x14), (13, .ro (.int .i64) x13), (12, .ro (.int .i64) x12), (11, .ro (.int .i64) x11), (10, .own 20), (9, .ro (.int .i64) x9), (8, .own 16), (2, .ro (.sl 3 (.int .i64)) x2), (0, .ro (.int .i64) x0)], lkp none [(20, some ⟨3, .int .i64, x10, true⟩), (16, some ⟨3, .int .i64, x8, true⟩)], 0⟩ := by
        refine sinb fun k hk1 ih1 x0 x2 x8 x9 x10 x11 x12 x13 x14 h => hX1 _ ?_
        clear hX1
        rcases k with _ | k
        ·cases h
        unfold r9DivMod.l1 at h
        replace h := hs_ h
        refine go_ ?_
        repeat' (first | split at h | (refine bnf h fun t e h => ?_; (repeat (first | refine fg_ ?_ | refine pg_ ?_ | refine qg_ ?_ | refine an_ ?_ | refine ip_ ?_ | refine in_ ?_)); refine ⟨_, (by first | exact r9Copy_con e | exact r4Inverse_con e | exact r9Trim_con e), ?_⟩; refine go_ ?_) | (refine bnf h fun t e h => ?_; (repeat (first | refine fg_ ?_ | refine pg_ ?_ | refine qg_ ?_ | refine an_ ?_ | refine ip_ ?_ | refine in_ ?_ | (refine ⟨_, (by first | exact r9Copy_con ‹_› | exact r4Inverse_con ‹_› | exact r9Trim_con ‹_›), ?_⟩; refine go_ ?_))); refine ⟨_, (by first | exact r9Copy_con e | exact r4Inverse_con e | exact r9Trim_con e), ?_⟩; refine go_ ?_) | fail)
        all_goals (first | ((repeat (first | refine fg_ ?_ | refine pg_ ?_ | refine qg_ ?_ | refine an_ ?_ | refine ip_ ?_ | refine in_ ?_ | (refine ⟨_, (by first | exact r9Copy_con ‹_› | exact r4Inverse_con ‹_› | exact r9Trim_con ‹_›), ?_⟩; refine go_ ?_))); exact ih1 _ (by omega) _ _ _ _ _ _ _ _ _ h) | ((repeat (first | refine fg_ ?_ | refine pg_ ?_ | refine qg_ ?_ | refine an_ ?_ | refine ip_ ?_ | refine in_ ?_ | (refine ⟨_, (by first | exact r9Copy_con ‹_› | exact r4Inverse_con ‹_› | exact r9Trim_con ‹_›), ?_⟩; refine go_ ?_))); exact ih0 _ (by omega) _ _ _ _ _ _ _ h) | (cases h <;> (repeat (first | refine fg_ ?_ | refine pg_ ?_ | refine qg_ ?_ | refine an_ ?_ | refine ip_ ?_ | refine in_ ?_ | (refine ⟨_, (by first | exact r9Copy_con ‹_› | exact r4Inverse_con ‹_› | exact r9Trim_con ‹_›), ?_⟩; refine go_ ?_))) <;> (first | done | rfl | trivial | (simp; done))))
       exact key _ (by omega) _ _ _ _ _ _ _ _ _ h)
    exact key _ _ _ _ _ _ _ _ h)
theorem r9Mod_con {k : Nat} {a0 : Int} {l1 : List Int} {l2 : List Int} {r : List Int} (h : r9Mod.f k a0 l1 l2 = some r) : Con Try.prog 86 [⟨.int .i64, a0⟩, ⟨.sl 3 (.int .i64), l1⟩, ⟨.sl 3 (.int .i64), l2⟩] [(false, ⟨.sl 3 (.int .i64), r⟩)] := by
 refine con_ (ps := [0, 1, 2, 6, 8]) (res := [(6, none)]) ?_ Try.func86 Try.ntmps86
 refine go_ ?_
 unfold r9Mod.f at h
 replace h := hs_ h
 repeat' (first | split at h | (refine bnf h fun t e h => ?_; (repeat (first | refine fg_ ?_ | refine pg_ ?_ | refine qg_ ?_ | refine an_ ?_ | refine ip_ ?_ | refine in_ ?_)); refine ⟨_, (by first | exact r9DivMod_con e), ?_⟩; refine go_ ?_) | (refine bnf h fun t e h => ?_; (repeat (first | refine fg_ ?_ | refine pg_ ?_ | refine qg_ ?_ | refine an_ ?_ | refine ip_ ?_ | refine in_ ?_ | (refine ⟨_, (by first | exact r9DivMod_con ‹_›), ?_⟩; refine go_ ?_))); refine ⟨_, (by first | exact r9DivMod_con e), ?_⟩; refine go_ ?_) | fail)
 all_goals (first | (cases h <;> (repeat (first | refine fg_ ?_ | refine pg_ ?_ | refine qg_ ?_ | refine an_ ?_ | refine ip_ ?_ | refine in_ ?_ | (refine ⟨_, (by first | exact r9DivMod_con ‹_›), ?_⟩; refine go_ ?_))) <;> (first | done | rfl | trivial | (simp; done))))
theorem r9X_con  {r : List Int} (h : r9X.f = some r) : Con Try.prog 87 [] [(false, ⟨.sl 3 (.int .i64), r⟩)] := by
 refine con_ (ps := [0]) (res := [(0, none)]) ?_ Try.func87 Try.ntmps87
 refine go_ ?_
 unfold r9X.f at h
 replace h := hs_ h
 repeat' (first | split at h | fail)
 all_goals (first | (cases h <;> (repeat (first | refine fg_ ?_ | refine pg_ ?_ | refine qg_ ?_ | refine an_ ?_ | refine ip_ ?_ | refine in_ ?_)) <;> (first | done | rfl | trivial | (simp; done))))
theorem r9Mul_con {k : Nat} {a0 : Int} {l1 : List Int} {l2 : List Int} {r : List Int} (h : r9Mul.f k a0 l1 l2 = some r) : Con Try.prog 97 [⟨.int .i64, a0⟩, ⟨.sl 3 (.int .i64), l1⟩, ⟨.sl 3 (.int .i64), l2⟩] [(false, ⟨.sl 3 (.int .i64), r⟩)] := by
 refine con_ (ps := [0, 1, 2, 6, 7, 8, 9, 17, 28, 34]) (res := [(6, none)]) ?_ Try.func97 Try.ntmps97
 refine go_ ?_
 unfold r9Mul.f at h
 replace h := hs_ h
 repeat' (first | split at h | (refine bnf h fun t e h => ?_; (repeat (first | refine fg_ ?_ | refine pg_ ?_ | refine qg_ ?_ | refine an_ ?_ | refine ip_ ?_ | refine in_ ?_)); refine ⟨_, (by first | exact r9Trim_con e), ?_⟩; refine go_ ?_) | (refine bnf h fun t e h => ?_; (repeat (first | refine fg_ ?_ | refine pg_ ?_ | refine qg_ ?_ | refine an_ ?_ | refine ip_ ?_ | refine in_ ?_ | (refine ⟨_, (by first | exact r9Trim_con ‹_›), ?_⟩; refine go_ ?_))); refine ⟨_, (by first | exact r9Trim_con e), ?_⟩; refine go_ ?_) | (rcases k with _ | k; (· cases h); unfold r9Mul.j0 at h; replace h := hs_ h) | fail)
 all_goals first
  | (cases h <;> (repeat (first | refine fg_ ?_ | refine pg_ ?_ | refine qg_ ?_ | refine an_ ?_ | refine ip_ ?_ | refine in_ ?_ | (refine ⟨_, (by first | exact r9Trim_con ‹_›), ?_⟩; refine go_ ?_))) <;> (first | done | rfl | trivial | (simp; done)))
  | (
    (with_reducible have h : r9Mul.l0 _ _ _ _ _ _ = some r := h)
    repeat (first | refine fg_ ?_ | refine pg_ ?_ | refine qg_ ?_ | refine an_ ?_ | refine ip_ ?_ | refine in_ ?_ | (refine ⟨_, (by first | exact r9Trim_con ‹_›), ?_⟩; refine go_ ?_))
    refine lp [(0, .keep), (1, .row 3 (.int .i64)), (2, .row 3 (.int .i64)), (7, .own 3 (.int .i64)), (8, .keep)] fun X0 hX0 => ?_
    refine go_ ?_
    have key : ∀ k x0 x1 x2 x7 x8, r9Mul.l0 k x0 x1 x2 x7 x8 = some r → X0 ⟨lkp .bot [(8, .ro (.int .i64) x8), (7, .own 14), (2, .ro (.sl 3 (.int .i64)) x2), (1, .ro (.sl 3 (.int .i64)) x1), (0, .ro (.int .i64) x0)], lkp none [(14, some ⟨3, .int .i64, x7, true⟩)], 0⟩ := by
     refine sind fun k ih0 x0 x1 x2 x7 x8 h => hX0 _ ?_
     clear hX0
     rcases k with _ | k
     ·cases h
     unfold r9Mul.l0 at h
     replace h := hs_ h
     refine go_ ?_
     repeat' (first | split at h | (refine bnf h fun t e h => ?_; (repeat (first | refine fg_ ?_ | refine pg_ ?_ | refine qg_ ?_ | refine an_ ?_ | refine ip_ ?_ | refine in_ ?_)); refine ⟨_, (by first | exact r9Trim_con e), ?_⟩; refine go_ ?_) | (refine bnf h fun t e h => ?_; (repeat (first | refine fg_ ?_ | refine pg_ ?_ | refine qg_ ?_ | refine an_ ?_ | refine ip_ ?_ | refine in_ ?_ | (refine ⟨_, (by first | exact r9Trim_con ‹_›), ?_⟩; refine go_ ?_))); refine ⟨_, (by first | exact r9Trim_con e), ?_⟩; refine go_ ?_) | (rcases k with _ | k; (· cases h); unfold r9Mul.j0 at h; replace h := hs_ h) | fail)
     all_goals first
      | ((repeat (first | refine fg_ ?_ | refine pg_ ?_ | refine qg_ ?_ | refine an_ ?_ | refine ip_ ?_ | refine in_ ?_ | (refine ⟨_, (by first | exact r9Trim_con ‹_›), ?_⟩; refine go_ ?_))); exact ih0 _ (by omega) _ _ _ _ _ h)
      | (cases h <;> (repeat (first | refine fg_ ?_ | refine pg_ ?_ | refine qg_ ?_ | refine an_ ?_ | refine ip_ ?_ | refine in_ ?_ | (refine ⟨_, (by first | exact r9Trim_con ‹_›), ?_⟩; refine go_ ?_))) <;> (first | done | rfl | trivial | (simp; done)))
      | (
       (with_reducible have h : r9Mul.l1 _ _ _ _ _ _ _ = some r := h)
       repeat (first | refine fg_ ?_ | refine pg_ ?_ | refine qg_ ?_ | refine an_ ?_ | refine ip_ ?_ | refine in_ ?_ | (refine ⟨_, (by first | exact r9Trim_con ‹_›), ?_⟩; refine go_ ?_))
       refine lp [(0, .keep), (1, .row 3 (.int .i64)), (2, .row 3 (.int .i64)), (7, .own 3 (.int .i64)), (8, .keep), (9, .keep)] fun X1 hX1 => ?_
       refine go_ ?_
       have key : ∀ j, j ≤ k → ∀ x0 x1 x2 x7 x8 x9, r9Mul.l1 j x0 x1 x2 x7 x8 x9 = some r → X1 ⟨lkp .bot [(9, .ro (.int .i64) x9), (8, .ro (.int .i64) x8), (7, .own 14), (2, .ro (.sl 3 (.int .i64)) x2), (1, .ro (.sl 3 (.int .i64)) x1), (0, .ro (.int .i64) x0)], lkp none [(14, some ⟨3, .int .i64, x7, true⟩)], 0⟩ := by
        refine sinb fun k hk1 ih1 x0 x1 x2 x7 x8 x9 h => hX1 _ ?_
        clear hX1
        rcases k with _ | k
        ·cases h
        unfold r9Mul.l1 at h
        replace h := hs_ h
        refine go_ ?_
        repeat' (first | split at h | (refine bnf h fun t e h => ?_; (repeat (first | refine fg_ ?_ | refine pg_ ?_ | refine qg_ ?_ | refine an_ ?_ | refine ip_ ?_ | refine in_ ?_)); refine ⟨_, (by first | exact r9Trim_con e), ?_⟩; refine go_ ?_) | (refine bnf h fun t e h => ?_; (repeat (first | refine fg_ ?_ | refine pg_ ?_ | refine qg_ ?_ | refine an_ ?_ | refine ip_ ?_ | refine in_ ?_ | (refine ⟨_, (by first | exact r9Trim_con ‹_›), ?_⟩; refine go_ ?_))); refine ⟨_, (by first | exact r9Trim_con e), ?_⟩; refine go_ ?_) | (rcases k with _ | k; (· cases h); unfold r9Mul.j0 at h; replace h := hs_ h) | fail)
        all_goals (first | ((repeat (first | refine fg_ ?_ | refine pg_ ?_ | refine qg_ ?_ | refine an_ ?_ | refine ip_ ?_ | refine in_ ?_ | (refine ⟨_, (by first | exact r9Trim_con ‹_›), ?_⟩; refine go_ ?_))); exact ih1 _ (by omega) _ _ _ _ _ _ h) | ((repeat (first | refine fg_ ?_ | refine pg_ ?_ | refine qg_ ?_ | refine an_ ?_ | refine ip_ ?_ | refine in_ ?_ | (refine ⟨_, (by first | exact r9Trim_con ‹_›), ?_⟩; refine go_ ?_))); exact ih0 _ (by omega) _ _ _ _ _ h) | (cases h <;> (repeat (first | refine fg_ ?_ | refine pg_ ?_ | refine qg_ ?_ | refine an_ ?_ | refine ip_ ?_ | refine in_ ?_ | (refine ⟨_, (by first | exact r9Trim_con ‹_›), ?_⟩; refine go_ ?_))) <;> (first | done | rfl | trivial | (simp; done))))
       exact key _ (by omega) _ _ _ _ _ _ h)
    exact key _ _ _ _ _ _ h)
theorem r9MulMod_con {k : Nat} {a0 : Int} {l1 : List Int} {l2 : List Int} {l3 : List Int} {r : List Int} (h : r9MulMod.f k a0 l1 l2 l3 = some r) : Con Try.prog 66 [⟨.int .i64, a0⟩, ⟨.sl 3 (.int .i64), l1⟩, ⟨.sl 3 (.int .i64), l2⟩, ⟨.sl 3 (.int .i64), l3⟩] [(false, ⟨.sl 3 (.int .i64), r⟩)] := by
 refine con_ (ps := [0, 1, 2, 3, 8]) (res := [(8, none)]) ?_ Try.func66 Try.ntmps66
 refine go_ ?_
 unfold r9MulMod.f at h
 replace h := hs_ h
 repeat' (first | split at h | (refine bnf h fun t e h => ?_; (repeat (first | refine fg_ ?_ | refine pg_ ?_ | refine qg_ ?_ | refine an_ ?_ | refine ip_ ?_ | refine in_ ?_)); refine ⟨_, (by first | exact r9Mul_con e | exact r9Mod_con e), ?_⟩; refine go_ ?_) | (refine bnf h fun t e h => ?_; (repeat (first | refine fg_ ?_ | refine pg_ ?_ | refine qg_ ?_ | refine an_ ?_ | refine ip_ ?_ | refine in_ ?_ | (refine ⟨_, (by first | exact r9Mul_con ‹_› | exact r9Mod_con ‹_›), ?_⟩; refine go_ ?_))); refine ⟨_, (by first | exact r9Mul_con e | exact r9Mod_con e), ?_⟩; refine go_ ?_) | fail)
 all_goals (first | (cases h <;> (repeat (first | refine fg_ ?_ | refine pg_ ?_ | refine qg_ ?_ | refine an_ ?_ | refine ip_ ?_ | refine in_ ?_ | (refine ⟨_, (by first | exact r9Mul_con ‹_› | exact r9Mod_con ‹_›), ?_⟩; refine go_ ?_))) <;> (first | done | rfl | trivial | (simp; done))))
theorem r9PowMod_con {k : Nat} {a0 : Int} {l1 : List Int} {a2 : ByteArray} {l3 : List Int} {r : List Int} (h : r9PowMod.f k a0 l1 a2 l3 = some r) : Con Try.prog 88 [⟨.int .i64, a0⟩, ⟨.sl 3 (.int .i64), l1⟩, ⟨.str, a2⟩, ⟨.sl 3 (.int .i64), l3⟩] [(false, ⟨.sl 3 (.int .i64), r⟩)] := by
 refine con_ (ps := [0, 1, 2, 3, 8, 9, 10, 11, 23, 27, 41]) (res := [(8, none)]) ?_ Try.func88 Try.ntmps88
 refine go_ ?_
 unfold r9PowMod.f at h
 replace h := hs_ h
 repeat' (first | split at h | (refine bnf h fun t e h => ?_; (repeat (first | refine fg_ ?_ | refine pg_ ?_ | refine qg_ ?_ | refine an_ ?_ | refine ip_ ?_ | refine in_ ?_)); refine ⟨_, (by first | exact r9Mod_con e | exact r9MulMod_con e), ?_⟩; refine go_ ?_) | (refine bnf h fun t e h => ?_; (repeat (first | refine fg_ ?_ | refine pg_ ?_ | refine qg_ ?_ | refine an_ ?_ | refine ip_ ?_ | refine in_ ?_ | (refine ⟨_, (by first | exact r9Mod_con ‹_› | exact r9MulMod_con ‹_›), ?_⟩; refine go_ ?_))); refine ⟨_, (by first | exact r9Mod_con e | exact r9MulMod_con e), ?_⟩; refine go_ ?_) | fail)
 all_goals first
  | (cases h <;> (repeat (first | refine fg_ ?_ | refine pg_ ?_ | refine qg_ ?_ | refine an_ ?_ | refine ip_ ?_ | refine in_ ?_ | (refine ⟨_, (by first | exact r9Mod_con ‹_› | exact r9MulMod_con ‹_›), ?_⟩; refine go_ ?_))) <;> (first | done | rfl | trivial | (simp; done)))
  | (
    (with_reducible have h : r9PowMod.l0 _ _ _ _ _ _ _ = some r := h)
    repeat (first | refine fg_ ?_ | refine pg_ ?_ | refine qg_ ?_ | refine an_ ?_ | refine ip_ ?_ | refine in_ ?_ | (refine ⟨_, (by first | exact r9Mod_con ‹_› | exact r9MulMod_con ‹_›), ?_⟩; refine go_ ?_))
    refine lp [(0, .keep), (1, .row 3 (.int .i64)), (2, .keep), (3, .row 3 (.int .i64)), (9, .row 3 (.int .i64)), (10, .keep)] fun X0 hX0 => ?_
    refine go_ ?_
    have key : ∀ k x0 x1 x2 x3 x9 x10, r9PowMod.l0 k x0 x1 x2 x3 x9 x10 = some r → X0 ⟨lkp .bot [(10, .ro (.int .i64) x10), (9, .ro (.sl 3 (.int .i64)) x9), (3, .ro (.sl 3 (.int .i64)) x3), (2, .ro (.str) x2), (1, .ro (.sl 3 (.int .i64)) x1), (0, .ro (.int .i64) x0)], lkp none [], 0⟩ := by
     refine sind fun k ih0 x0 x1 x2 x3 x9 x10 h => hX0 _ ?_
     clear hX0
     rcases k with _ | k
     ·cases h
     unfold r9PowMod.l0 at h
     replace h := hs_ h
     refine go_ ?_
     repeat' (first | split at h | (refine bnf h fun t e h => ?_; (repeat (first | refine fg_ ?_ | refine pg_ ?_ | refine qg_ ?_ | refine an_ ?_ | refine ip_ ?_ | refine in_ ?_)); refine ⟨_, (by first | exact r9Mod_con e | exact r9MulMod_con e), ?_⟩; refine go_ ?_) | (refine bnf h fun t e h => ?_; (repeat (first | refine fg_ ?_ | refine pg_ ?_ | refine qg_ ?_ | refine an_ ?_ | refine ip_ ?_ | refine in_ ?_ | (refine ⟨_, (by first | exact r9Mod_con ‹_› | exact r9MulMod_con ‹_›), ?_⟩; refine go_ ?_))); refine ⟨_, (by first | exact r9Mod_con e | exact r9MulMod_con e), ?_⟩; refine go_ ?_) | fail)
     all_goals first
      | ((repeat (first | refine fg_ ?_ | refine pg_ ?_ | refine qg_ ?_ | refine an_ ?_ | refine ip_ ?_ | refine in_ ?_ | (refine ⟨_, (by first | exact r9Mod_con ‹_› | exact r9MulMod_con ‹_›), ?_⟩; refine go_ ?_))); exact ih0 _ (by omega) _ _ _ _ _ _ h)
      | (cases h <;> (repeat (first | refine fg_ ?_ | refine pg_ ?_ | refine qg_ ?_ | refine an_ ?_ | refine ip_ ?_ | refine in_ ?_ | (refine ⟨_, (by first | exact r9Mod_con ‹_› | exact r9MulMod_con ‹_›), ?_⟩; refine go_ ?_))) <;> (first | done | rfl | trivial | (simp; done)))
      | (
       (with_reducible have h : r9PowMod.l1 _ _ _ _ _ _ _ _ = some r := h)
       repeat (first | refine fg_ ?_ | refine pg_ ?_ | refine qg_ ?_ | refine an_ ?_ | refine ip_ ?_ | refine in_ ?_ | (refine ⟨_, (by first | exact r9Mod_con ‹_› | exact r9MulMod_con ‹_›), ?_⟩; refine go_ ?_))
       refine lp [(0, .keep), (1, .row 3 (.int .i64)), (2, .keep), (3, .row 3 (.int .i64)), (9, .row 3 (.int .i64)), (10, .keep), (11, .keep)] fun X1 hX1 => ?_
       refine go_ ?_
       have key : ∀ j, j ≤ k → ∀ x0 x1 x2 x3 x9 x10 x11, r9PowMod.l1 j x0 x1 x2 x3 x9 x10 x11 = some r → X1 ⟨lkp .bot [(11, .ro (.int .i64) x11), (10, .ro (.int .i64) x10), (9, .ro (.sl 3 (.int .i64)) x9), (3, .ro (.sl 3 (.int .i64)) x3), (2, .ro (.str) x2), (1, .ro (.sl 3 (.int .i64)) x1), (0, .ro (.int .i64) x0)], lkp none [], 0⟩ := by
        refine sinb fun k hk1 ih1 x0 x1 x2 x3 x9 x10 x11 h => hX1 _ ?_
        clear hX1
        rcases k with _ | k
        ·cases h
        unfold r9PowMod.l1 at h
        replace h := hs_ h
        refine go_ ?_
        repeat' (first | split at h | (refine bnf h fun t e h => ?_; (repeat (first | refine fg_ ?_ | refine pg_ ?_ | refine qg_ ?_ | refine an_ ?_ | refine ip_ ?_ | refine in_ ?_)); refine ⟨_, (by first | exact r9Mod_con e | exact r9MulMod_con e), ?_⟩; refine go_ ?_) | (refine bnf h fun t e h => ?_; (repeat (first | refine fg_ ?_ | refine pg_ ?_ | refine qg_ ?_ | refine an_ ?_ | refine ip_ ?_ | refine in_ ?_ | (refine ⟨_, (by first | exact r9Mod_con ‹_› | exact r9MulMod_con ‹_›), ?_⟩; refine go_ ?_))); refine ⟨_, (by first | exact r9Mod_con e | exact r9MulMod_con e), ?_⟩; refine go_ ?_) | fail)
        all_goals (first | ((repeat (first | refine fg_ ?_ | refine pg_ ?_ | refine qg_ ?_ | refine an_ ?_ | refine ip_ ?_ | refine in_ ?_ | (refine ⟨_, (by first | exact r9Mod_con ‹_› | exact r9MulMod_con ‹_›), ?_⟩; refine go_ ?_))); exact ih1 _ (by omega) _ _ _ _ _ _ _ h) | ((repeat (first | refine fg_ ?_ | refine pg_ ?_ | refine qg_ ?_ | refine an_ ?_ | refine ip_ ?_ | refine in_ ?_ | (refine ⟨_, (by first | exact r9Mod_con ‹_› | exact r9MulMod_con ‹_›), ?_⟩; refine go_ ?_))); exact ih0 _ (by omega) _ _ _ _ _ _ h) | (cases h <;> (repeat (first | refine fg_ ?_ | refine pg_ ?_ | refine qg_ ?_ | refine an_ ?_ | refine ip_ ?_ | refine in_ ?_ | (refine ⟨_, (by first | exact r9Mod_con ‹_› | exact r9MulMod_con ‹_›), ?_⟩; refine go_ ?_))) <;> (first | done | rfl | trivial | (simp; done))))
       exact key _ (by omega) _ _ _ _ _ _ _ h)
    exact key _ _ _ _ _ _ _ h)
theorem r9Lead_con {l0 : List Int} {r : Int} (h : r9Lead.f l0 = some r) : Con Try.prog 63 [⟨.sl 3 (.int .i64), l0⟩] [(false, ⟨.int .i64, r⟩)] := by
 refine con_ (ps := [0, 2, 5]) (res := [(2, none)]) ?_ Try.func63 Try.ntmps63
 refine go_ ?_
 unfold r9Lead.f at h
 replace h := hs_ h
 repeat' (first | split at h | fail)
 all_goals (first | (cases h <;> (repeat (first | refine fg_ ?_ | refine pg_ ?_ | refine qg_ ?_ | refine an_ ?_ | refine ip_ ?_ | refine in_ ?_)) <;> (first | done | rfl | trivial | (simp; done))))
theorem r9Monic_con {k : Nat} {a0 : Int} {l1 : List Int} {r : List Int} (h : r9Monic.f k a0 l1 = some r) : Con Try.prog 109 [⟨.int .i64, a0⟩, ⟨.sl 3 (.int .i64), l1⟩] [(false, ⟨.sl 3 (.int .i64), r⟩)] := by
 refine con_ (ps := [0, 1, 4, 7]) (res := [(4, none)]) ?_ Try.func109 Try.ntmps109
 refine go_ ?_
 unfold r9Monic.f at h
 replace h := hs_ h
 repeat' (first | split at h | (refine bnf h fun t e h => ?_; (repeat (first | refine fg_ ?_ | refine pg_ ?_ | refine qg_ ?_ | refine an_ ?_ | refine ip_ ?_ | refine in_ ?_)); refine ⟨_, (by first | exact r9Lead_con e | exact r4Inverse_con e | exact r9Scale_con e), ?_⟩; refine go_ ?_) | (refine bnf h fun t e h => ?_; (repeat (first | refine fg_ ?_ | refine pg_ ?_ | refine qg_ ?_ | refine an_ ?_ | refine ip_ ?_ | refine in_ ?_ | (refine ⟨_, (by first | exact r9Lead_con ‹_› | exact r4Inverse_con ‹_› | exact r9Scale_con ‹_›), ?_⟩; refine go_ ?_))); refine ⟨_, (by first | exact r9Lead_con e | exact r4Inverse_con e | exact r9Scale_con e), ?_⟩; refine go_ ?_) | fail)
 all_goals (first | (cases h <;> (repeat (first | refine fg_ ?_ | refine pg_ ?_ | refine qg_ ?_ | refine an_ ?_ | refine ip_ ?_ | refine in_ ?_ | (refine ⟨_, (by first | exact r9Lead_con ‹_› | exact r4Inverse_con ‹_› | exact r9Scale_con ‹_›), ?_⟩; refine go_ ?_))) <;> (first | done | rfl | trivial | (simp; done))))
theorem r9Gcd_con {k : Nat} {a0 : Int} {l1 : List Int} {l2 : List Int} {r : List Int} (h : r9Gcd.f k a0 l1 l2 = some r) : Con Try.prog 89 [⟨.int .i64, a0⟩, ⟨.sl 3 (.int .i64), l1⟩, ⟨.sl 3 (.int .i64), l2⟩] [(false, ⟨.sl 3 (.int .i64), r⟩)] := by
 refine con_ (ps := [0, 1, 2, 6, 9]) (res := [(6, none)]) ?_ Try.func89 Try.ntmps89
 refine go_ ?_
 unfold r9Gcd.f at h
 replace h := hs_ h
 repeat' (first | split at h | (refine bnf h fun t e h => ?_; (repeat (first | refine fg_ ?_ | refine pg_ ?_ | refine qg_ ?_ | refine an_ ?_ | refine ip_ ?_ | refine in_ ?_)); refine ⟨_, (by first | exact r9Mod_con e | exact r9Monic_con e), ?_⟩; refine go_ ?_) | (refine bnf h fun t e h => ?_; (repeat (first | refine fg_ ?_ | refine pg_ ?_ | refine qg_ ?_ | refine an_ ?_ | refine ip_ ?_ | refine in_ ?_ | (refine ⟨_, (by first | exact r9Mod_con ‹_› | exact r9Monic_con ‹_›), ?_⟩; refine go_ ?_))); refine ⟨_, (by first | exact r9Mod_con e | exact r9Monic_con e), ?_⟩; refine go_ ?_) | fail)
 all_goals first
  | (cases h <;> (repeat (first | refine fg_ ?_ | refine pg_ ?_ | refine qg_ ?_ | refine an_ ?_ | refine ip_ ?_ | refine in_ ?_ | (refine ⟨_, (by first | exact r9Mod_con ‹_› | exact r9Monic_con ‹_›), ?_⟩; refine go_ ?_))) <;> (first | done | rfl | trivial | (simp; done)))
  | (
    (with_reducible have h : r9Gcd.l0 _ _ _ _ = some r := h)
    repeat (first | refine fg_ ?_ | refine pg_ ?_ | refine qg_ ?_ | refine an_ ?_ | refine ip_ ?_ | refine in_ ?_ | (refine ⟨_, (by first | exact r9Mod_con ‹_› | exact r9Monic_con ‹_›), ?_⟩; refine go_ ?_))
    refine lp [(0, .keep), (1, .row 3 (.int .i64)), (2, .row 3 (.int .i64))] fun X0 hX0 => ?_
    refine go_ ?_
    have key : ∀ k x0 x1 x2, r9Gcd.l0 k x0 x1 x2 = some r → X0 ⟨lkp .bot [(2, .ro (.sl 3 (.int .i64)) x2), (1, .ro (.sl 3 (.int .i64)) x1), (0, .ro (.int .i64) x0)], lkp none [], 0⟩ := by
     refine sind fun k ih0 x0 x1 x2 h => hX0 _ ?_
     clear hX0
     rcases k with _ | k
     ·cases h
     unfold r9Gcd.l0 at h
     replace h := hs_ h
     refine go_ ?_
     repeat' (first | split at h | (refine bnf h fun t e h => ?_; (repeat (first | refine fg_ ?_ | refine pg_ ?_ | refine qg_ ?_ | refine an_ ?_ | refine ip_ ?_ | refine in_ ?_)); refine ⟨_, (by first | exact r9Mod_con e | exact r9Monic_con e), ?_⟩; refine go_ ?_) | (refine bnf h fun t e h => ?_; (repeat (first | refine fg_ ?_ | refine pg_ ?_ | refine qg_ ?_ | refine an_ ?_ | refine ip_ ?_ | refine in_ ?_ | (refine ⟨_, (by first | exact r9Mod_con ‹_› | exact r9Monic_con ‹_›), ?_⟩; refine go_ ?_))); refine ⟨_, (by first | exact r9Mod_con e | exact r9Monic_con e), ?_⟩; refine go_ ?_) | fail)
     all_goals (first | ((repeat (first | refine fg_ ?_ | refine pg_ ?_ | refine qg_ ?_ | refine an_ ?_ | refine ip_ ?_ | refine in_ ?_ | (refine ⟨_, (by first | exact r9Mod_con ‹_› | exact r9Monic_con ‹_›), ?_⟩; refine go_ ?_))); exact ih0 _ (by omega) _ _ _ h) | (cases h <;> (repeat (first | refine fg_ ?_ | refine pg_ ?_ | refine qg_ ?_ | refine an_ ?_ | refine ip_ ?_ | refine in_ ?_ | (refine ⟨_, (by first | exact r9Mod_con ‹_› | exact r9Monic_con ‹_›), ?_⟩; refine go_ ?_))) <;> (first | done | rfl | trivial | (simp; done))))
    exact key _ _ _ _ h)
theorem r9IsIrreducible_con {k : Nat} {a0 : Int} {l1 : List Int} {r : Bool} (h : r9IsIrreducible.f k a0 l1 = some r) : Con Try.prog 48 [⟨.int .i64, a0⟩, ⟨.sl 3 (.int .i64), l1⟩] [(false, ⟨.bool, r⟩)] := by
 refine con_ (ps := [0, 1, 4, 5, 6, 9, 19, 36]) (res := [(4, none)]) ?_ Try.func48 Try.ntmps48
 refine go_ ?_
 unfold r9IsIrreducible.f at h
 replace h := hs_ h
 repeat' (first | split at h | (refine bnf h fun t e h => ?_; (repeat (first | refine fg_ ?_ | refine pg_ ?_ | refine qg_ ?_ | refine an_ ?_ | refine ip_ ?_ | refine in_ ?_)); refine ⟨_, (by first | exact r9X_con e | exact r9Mod_con e | exact r1FromInt_con e | exact r9PowMod_con e | exact r9Sub_con e | exact r9Gcd_con e), ?_⟩; refine go_ ?_) | (refine bnf h fun t e h => ?_; (repeat (first | refine fg_ ?_ | refine pg_ ?_ | refine qg_ ?_ | refine an_ ?_ | refine ip_ ?_ | refine in_ ?_ | (refine ⟨_, (by first | exact r9X_con ‹_› | exact r9Mod_con ‹_› | exact r1FromInt_con ‹_› | exact r9PowMod_con ‹_› | exact r9Sub_con ‹_› | exact r9Gcd_con ‹_›), ?_⟩; refine go_ ?_))); refine ⟨_, (by first | exact r9X_con e | exact r9Mod_con e | exact r1FromInt_con e | exact r9PowMod_con e | exact r9Sub_con e | exact r9Gcd_con e), ?_⟩; refine go_ ?_) | fail)
 all_goals first
  | (cases h <;> (repeat (first | refine fg_ ?_ | refine pg_ ?_ | refine qg_ ?_ | refine an_ ?_ | refine ip_ ?_ | refine in_ ?_ | (refine ⟨_, (by first | exact r9X_con ‹_› | exact r9Mod_con ‹_› | exact r1FromInt_con ‹_› | exact r9PowMod_con ‹_› | exact r9Sub_con ‹_› | exact r9Gcd_con ‹_›), ?_⟩; refine go_ ?_))) <;> (first | done | rfl | trivial | (simp; done)))
  | (
    (with_reducible have h : r9IsIrreducible.l0 _ _ _ _ _ = some r := h)
    repeat (first | refine fg_ ?_ | refine pg_ ?_ | refine qg_ ?_ | refine an_ ?_ | refine ip_ ?_ | refine in_ ?_ | (refine ⟨_, (by first | exact r9X_con ‹_› | exact r9Mod_con ‹_› | exact r1FromInt_con ‹_› | exact r9PowMod_con ‹_› | exact r9Sub_con ‹_› | exact r9Gcd_con ‹_›), ?_⟩; refine go_ ?_))
    refine lp [(0, .keep), (1, .row 3 (.int .i64)), (5, .row 3 (.int .i64)), (6, .keep)] fun X0 hX0 => ?_
    refine go_ ?_
    have key : ∀ k x0 x1 x5 x6, r9IsIrreducible.l0 k x0 x1 x5 x6 = some r → X0 ⟨lkp .bot [(6, .ro (.int .i64) x6), (5, .ro (.sl 3 (.int .i64)) x5), (1, .ro (.sl 3 (.int .i64)) x1), (0, .ro (.int .i64) x0)], lkp none [], 0⟩ := by
     refine sind fun k ih0 x0 x1 x5 x6 h => hX0 _ ?_
     clear hX0
     rcases k with _ | k
     ·cases h
     unfold r9IsIrreducible.l0 at h
     replace h := hs_ h
     refine go_ ?_
     repeat' (first | split at h | (refine bnf h fun t e h => ?_; (repeat (first | refine fg_ ?_ | refine pg_ ?_ | refine qg_ ?_ | refine an_ ?_ | refine ip_ ?_ | refine in_ ?_)); refine ⟨_, (by first | exact r9X_con e | exact r9Mod_con e | exact r1FromInt_con e | exact r9PowMod_con e | exact r9Sub_con e | exact r9Gcd_con e), ?_⟩; refine go_ ?_) | (refine bnf h fun t e h => ?_; (repeat (first | refine fg_ ?_ | refine pg_ ?_ | refine qg_ ?_ | refine an_ ?_ | refine ip_ ?_ | refine in_ ?_ | (refine ⟨_, (by first | exact r9X_con ‹_› | exact r9Mod_con ‹_› | exact r1FromInt_con ‹_› | exact r9PowMod_con ‹_› | exact r9Sub_con ‹_› | exact r9Gcd_con ‹_›), ?_⟩; refine go_ ?_))); refine ⟨_, (by first | exact r9X_con e | exact r9Mod_con e | exact r1FromInt_con e | exact r9PowMod_con e | exact r9Sub_con e | exact r9Gcd_con e), ?_⟩; refine go_ ?_) | fail)
     all_goals (first | ((repeat (first | refine fg_ ?_ | refine pg_ ?_ | refine qg_ ?_ | refine an_ ?_ | refine ip_ ?_ | refine in_ ?_ | (refine ⟨_, (by first | exact r9X_con ‹_› | exact r9Mod_con ‹_› | exact r1FromInt_con ‹_› | exact r9PowMod_con ‹_› | exact r9Sub_con ‹_› | exact r9Gcd_con ‹_›), ?_⟩; refine go_ ?_))); exact ih0 _ (by omega) _ _ _ _ h) | (cases h <;> (repeat (first | refine fg_ ?_ | refine pg_ ?_ | refine qg_ ?_ | refine an_ ?_ | refine ip_ ?_ | refine in_ ?_ | (refine ⟨_, (by first | exact r9X_con ‹_› | exact r9Mod_con ‹_› | exact r1FromInt_con ‹_› | exact r9PowMod_con ‹_› | exact r9Sub_con ‹_› | exact r9Gcd_con ‹_›), ?_⟩; refine go_ ?_))) <;> (first | done | rfl | trivial | (simp; done))))
    exact key _ _ _ _ _ h)
theorem r4IsPrime_con {k : Nat} {a0 : Int} {r : Bool} (h : r4IsPrime.f k a0 = some r) : Con Try.prog 44 [⟨.int .i64, a0⟩] [(false, ⟨.bool, r⟩)] := by
 refine con_ (ps := [0, 2, 3, 8, 14]) (res := [(2, none)]) ?_ Try.func44 Try.ntmps44
 refine go_ ?_
 unfold r4IsPrime.f at h
 replace h := hs_ h
 repeat' (first | split at h | fail)
 all_goals first
  | (cases h <;> (repeat (first | refine fg_ ?_ | refine pg_ ?_ | refine qg_ ?_ | refine an_ ?_ | refine ip_ ?_ | refine in_ ?_)) <;> (first | done | rfl | trivial | (simp; done)))
  | (
    (with_reducible have h : r4IsPrime.l0 _ _ _ = some r := h)
    repeat (first | refine fg_ ?_ | refine pg_ ?_ | refine qg_ ?_ | refine an_ ?_ | refine ip_ ?_ | refine in_ ?_)
    refine lp [(0, .keep), (3, .keep)] fun X0 hX0 => ?_
    refine go_ ?_
    have key : ∀ k x0 x3, r4IsPrime.l0 k x0 x3 = some r → X0 ⟨lkp .bot [(3, .ro (.int .i64) x3), (0, .ro (.int .i64) x0)], lkp none [], 0⟩ := by
     refine sind fun k ih0 x0 x3 h => hX0 _ ?_
     clear hX0
     rcases k with _ | k
     ·cases h
     unfold r4IsPrime.l0 at h
     replace h := hs_ h
     refine go_ ?_
     repeat' (first | split at h | fail)
     all_goals (first | ((repeat (first | refine fg_ ?_ | refine pg_ ?_ | refine qg_ ?_ | refine an_ ?_ | refine ip_ ?_ | refine in_ ?_)); exact ih0 _ (by omega) _ _ h) | (cases h <;> (repeat (first | refine fg_ ?_ | refine pg_ ?_ | refine qg_ ?_ | refine an_ ?_ | refine ip_ ?_ | refine in_ ?_)) <;> (first | done | rfl | trivial | (simp; done))))
    exact key _ _ _ h)
theorem r9IsPrime_con {k : Nat} {a0 : Int} {r : Bool} (h : r9IsPrime.f k a0 = some r) : Con Try.prog 10 [⟨.int .i64, a0⟩] [(false, ⟨.bool, r⟩)] := by
 refine con_ (ps := [0, 2]) (res := [(2, none)]) ?_ Try.func10 Try.ntmps10
 refine go_ ?_
 unfold r9IsPrime.f at h
 replace h := hs_ h
 repeat' (first | split at h | (refine bnf h fun t e h => ?_; (repeat (first | refine fg_ ?_ | refine pg_ ?_ | refine qg_ ?_ | refine an_ ?_ | refine ip_ ?_ | refine in_ ?_)); refine ⟨_, (by first | exact r4IsPrime_con e), ?_⟩; refine go_ ?_) | (refine bnf h fun t e h => ?_; (repeat (first | refine fg_ ?_ | refine pg_ ?_ | refine qg_ ?_ | refine an_ ?_ | refine ip_ ?_ | refine in_ ?_ | (refine ⟨_, (by first | exact r4IsPrime_con ‹_›), ?_⟩; refine go_ ?_))); refine ⟨_, (by first | exact r4IsPrime_con e), ?_⟩; refine go_ ?_) | fail)
 all_goals (first | (cases h <;> (repeat (first | refine fg_ ?_ | refine pg_ ?_ | refine qg_ ?_ | refine an_ ?_ | refine ip_ ?_ | refine in_ ?_ | (refine ⟨_, (by first | exact r4IsPrime_con ‹_›), ?_⟩; refine go_ ?_))) <;> (first | done | rfl | trivial | (simp; done))))
theorem r9Check_con {k : Nat} {a0 : Int} {l1 : List Int} {r : Int} (h : r9Check.f k a0 l1 = some r) : Con Try.prog 62 [⟨.int .i64, a0⟩, ⟨.sl 3 (.int .i64), l1⟩] [(false, ⟨.int .i64, r⟩)] := by
 refine con_ (ps := [0, 1, 4, 5, 8, 11, 15, 30, 42]) (res := [(4, none)]) ?_ Try.func62 Try.ntmps62
 refine go_ ?_
 unfold r9Check.f at h
 replace h := hs_ h
 repeat' (first | split at h | (refine bnf h fun t e h => ?_; (repeat (first | refine fg_ ?_ | refine pg_ ?_ | refine qg_ ?_ | refine an_ ?_ | refine ip_ ?_ | refine in_ ?_)); refine ⟨_, (by first | exact r9IsPrime_con e), ?_⟩; refine go_ ?_) | (refine bnf h fun t e h => ?_; (repeat (first | refine fg_ ?_ | refine pg_ ?_ | refine qg_ ?_ | refine an_ ?_ | refine ip_ ?_ | refine in_ ?_ | (refine ⟨_, (by first | exact r9IsPrime_con ‹_›), ?_⟩; refine go_ ?_))); refine ⟨_, (by first | exact r9IsPrime_con e), ?_⟩; refine go_ ?_) | fail)
 all_goals first
  | (cases h <;> (repeat (first | refine fg_ ?_ | refine pg_ ?_ | refine qg_ ?_ | refine an_ ?_ | refine ip_ ?_ | refine in_ ?_ | (refine ⟨_, (by first | exact r9IsPrime_con ‹_›), ?_⟩; refine go_ ?_))) <;> (first | done | rfl | trivial | (simp; done)))
  | (
    (with_reducible have h : r9Check.l0 _ _ _ _ = some r := h)
    repeat (first | refine fg_ ?_ | refine pg_ ?_ | refine qg_ ?_ | refine an_ ?_ | refine ip_ ?_ | refine in_ ?_ | (refine ⟨_, (by first | exact r9IsPrime_con ‹_›), ?_⟩; refine go_ ?_))
    refine lp [(0, .keep), (1, .row 3 (.int .i64)), (5, .keep)] fun X0 hX0 => ?_
    refine go_ ?_
    have key : ∀ k x0 x1 x5, r9Check.l0 k x0 x1 x5 = some r → X0 ⟨lkp .bot [(5, .ro (.int .i64) x5), (1, .ro (.sl 3 (.int .i64)) x1), (0, .ro (.int .i64) x0)], lkp none [], 0⟩ := by
     refine sind fun k ih0 x0 x1 x5 h => hX0 _ ?_
     clear hX0
     rcases k with _ | k
     ·cases h
     unfold r9Check.l0 at h
     replace h := hs_ h
     refine go_ ?_
     repeat' (first | split at h | (refine bnf h fun t e h => ?_; (repeat (first | refine fg_ ?_ | refine pg_ ?_ | refine qg_ ?_ | refine an_ ?_ | refine ip_ ?_ | refine in_ ?_)); refine ⟨_, (by first | exact r9IsPrime_con e), ?_⟩; refine go_ ?_) | (refine bnf h fun t e h => ?_; (repeat (first | refine fg_ ?_ | refine pg_ ?_ | refine qg_ ?_ | refine an_ ?_ | refine ip_ ?_ | refine in_ ?_ | (refine ⟨_, (by first | exact r9IsPrime_con ‹_›), ?_⟩; refine go_ ?_))); refine ⟨_, (by first | exact r9IsPrime_con e), ?_⟩; refine go_ ?_) | fail)
     all_goals (first | ((repeat (first | refine fg_ ?_ | refine pg_ ?_ | refine qg_ ?_ | refine an_ ?_ | refine ip_ ?_ | refine in_ ?_ | (refine ⟨_, (by first | exact r9IsPrime_con ‹_›), ?_⟩; refine go_ ?_))); exact ih0 _ (by omega) _ _ _ h) | (cases h <;> (repeat (first | refine fg_ ?_ | refine pg_ ?_ | refine qg_ ?_ | refine an_ ?_ | refine ip_ ?_ | refine in_ ?_ | (refine ⟨_, (by first | exact r9IsPrime_con ‹_›), ?_⟩; refine go_ ?_))) <;> (first | done | rfl | trivial | (simp; done))))
    exact key _ _ _ _ h)
theorem r15Check_con {k : Nat} {a0_0 : Int} {l0_1 : List Int} {r : Int} (h : r15Check.f k a0_0 l0_1 = some r) : Con Try.prog 24 [⟨.pr (.int .i64) (.pr (.sl 3 (.int .i64)) (.un)), (a0_0, (l0_1, ()))⟩] [(false, ⟨.int .i64, r⟩)] := by
 refine con_ (ps := [0, 1, 2, 3, 9, 13, 18, 29]) (res := [(2, none)]) ?_ Try.func24 Try.ntmps24
 refine go_ ?_
 unfold r15Check.f at h
 replace h := hs_ h
 repeat' (first | split at h | (refine bnf h fun t e h => ?_; (repeat (first | refine fg_ ?_ | refine pg_ ?_ | refine qg_ ?_ | refine an_ ?_ | refine ip_ ?_ | refine in_ ?_)); refine ⟨_, (by first | exact r9Check_con e | exact r9Lead_con e | exact r9IsIrreducible_con e), ?_⟩; refine go_ ?_) | (refine bnf h fun t e h => ?_; (repeat (first | refine fg_ ?_ | refine pg_ ?_ | refine qg_ ?_ | refine an_ ?_ | refine ip_ ?_ | refine in_ ?_ | (refine ⟨_, (by first | exact r9Check_con ‹_› | exact r9Lead_con ‹_› | exact r9IsIrreducible_con ‹_›), ?_⟩; refine go_ ?_))); refine ⟨_, (by first | exact r9Check_con e | exact r9Lead_con e | exact r9IsIrreducible_con e), ?_⟩; refine go_ ?_) | (rcases k with _ | k; (· cases h); unfold r15Check.j0 at h; replace h := hs_ h) | fail)
 all_goals (first | (cases h <;> (repeat (first | refine fg_ ?_ | refine pg_ ?_ | refine qg_ ?_ | refine an_ ?_ | refine ip_ ?_ | refine in_ ?_ | (refine ⟨_, (by first | exact r9Check_con ‹_› | exact r9Lead_con ‹_› | exact r9IsIrreducible_con ‹_›), ?_⟩; refine go_ ?_))) <;> (first | done | rfl | trivial | (simp; done))))
theorem r15Few_con {k : Nat} {a0_0 : Int} {l0_1 : List Int} {a1 : Int} {r : Bool} (h : r15Few.f k a0_0 l0_1 a1 = some r) : Con Try.prog 14 [⟨.pr (.int .i64) (.pr (.sl 3 (.int .i64)) (.un)), (a0_0, (l0_1, ()))⟩, ⟨.int .i64, a1⟩] [(false, ⟨.bool, r⟩)] := by
 refine con_ (ps := [0, 1, 2, 4]) (res := [(4, none)]) ?_ Try.func14 Try.ntmps14
 refine go_ ?_
 unfold r15Few.f at h
 replace h := hs_ h
 repeat' (first | split at h | (refine bnf h fun t e h => ?_; (repeat (first | refine fg_ ?_ | refine pg_ ?_ | refine qg_ ?_ | refine an_ ?_ | refine ip_ ?_ | refine in_ ?_)); refine ⟨_, (by first | exact r15Check_con e | exact r15Size_con e), ?_⟩; refine go_ ?_) | (refine bnf h fun t e h => ?_; (repeat (first | refine fg_ ?_ | refine pg_ ?_ | refine qg_ ?_ | refine an_ ?_ | refine ip_ ?_ | refine in_ ?_ | (refine ⟨_, (by first | exact r15Check_con ‹_› | exact r15Size_con ‹_›), ?_⟩; refine go_ ?_))); refine ⟨_, (by first | exact r15Check_con e | exact r15Size_con e), ?_⟩; refine go_ ?_) | fail)
 all_goals (first | (cases h <;> (repeat (first | refine fg_ ?_ | refine pg_ ?_ | refine qg_ ?_ | refine an_ ?_ | refine ip_ ?_ | refine in_ ?_ | (refine ⟨_, (by first | exact r15Check_con ‹_› | exact r15Size_con ‹_›), ?_⟩; refine go_ ?_))) <;> (first | done | rfl | trivial | (simp; done))))
theorem fi_element_con {k : Nat} {a0_0 : Int} {l0_1 : List Int} {l1 : List Int} {r : Int} (h : fi_element.f k a0_0 l0_1 l1 = some r) : Con Try.prog 91 [⟨.pr (.int .i64) (.pr (.sl 3 (.int .i64)) (.un)), (a0_0, (l0_1, ()))⟩, ⟨.sl 3 (.int .i64), l1⟩] [(false, ⟨.int .i64, r⟩)] := by
 refine con_ (ps := [0, 1, 2, 4, 5, 11, 18]) (res := [(4, none)]) ?_ Try.func91 Try.ntmps91
 refine go_ ?_
 unfold fi_element.f at h
 replace h := hs_ h
 repeat' (first | split at h | (refine bnf h fun t e h => ?_; (repeat (first | refine fg_ ?_ | refine pg_ ?_ | refine qg_ ?_ | refine an_ ?_ | refine ip_ ?_ | refine in_ ?_)); refine ⟨_, (by first | exact pm_Check_con e), ?_⟩; refine go_ ?_) | (refine bnf h fun t e h => ?_; (repeat (first | refine fg_ ?_ | refine pg_ ?_ | refine qg_ ?_ | refine an_ ?_ | refine ip_ ?_ | refine in_ ?_ | (refine ⟨_, (by first | exact pm_Check_con ‹_›), ?_⟩; refine go_ ?_))); refine ⟨_, (by first | exact pm_Check_con e), ?_⟩; refine go_ ?_) | fail)
 all_goals (first | (cases h <;> (repeat (first | refine fg_ ?_ | refine pg_ ?_ | refine qg_ ?_ | refine an_ ?_ | refine ip_ ?_ | refine in_ ?_ | (refine ⟨_, (by first | exact pm_Check_con ‹_›), ?_⟩; refine go_ ?_))) <;> (first | done | rfl | trivial | (simp; done))))
theorem fi_check_con {k : Nat} {a0_0 : Int} {l0_1 : List Int} {l1 : List (List Int)} {r : Int} (h : fi_check.f k a0_0 l0_1 l1 = some r) : Con Try.prog 53 [⟨.pr (.int .i64) (.pr (.sl 3 (.int .i64)) (.un)), (a0_0, (l0_1, ()))⟩, ⟨.sl 25 (.sl 3 (.int .i64)), l1⟩] [(false, ⟨.int .i64, r⟩)] := by
 refine con_ (ps := [0, 1, 2, 4, 5, 7, 8, 12, 14, 15, 16, 17, 24]) (res := [(4, none)]) ?_ Try.func53 Try.ntmps53
 refine go_ ?_
 unfold fi_check.f at h
 replace h := hs_ h
 repeat' (first | split at h | (refine bnf h fun t e h => ?_; (repeat (first | refine fg_ ?_ | refine pg_ ?_ | refine qg_ ?_ | refine an_ ?_ | refine ip_ ?_ | refine in_ ?_)); refine ⟨_, (by first | exact fi_Check_con e | exact fi_element_con e), ?_⟩; refine go_ ?_) | (refine bnf h fun t e h => ?_; (repeat (first | refine fg_ ?_ | refine pg_ ?_ | refine qg_ ?_ | refine an_ ?_ | refine ip_ ?_ | refine in_ ?_ | (refine ⟨_, (by first | exact fi_Check_con ‹_› | exact fi_element_con ‹_›), ?_⟩; refine go_ ?_))); refine ⟨_, (by first | exact fi_Check_con e | exact fi_element_con e), ?_⟩; refine go_ ?_) | fail)
 all_goals first
  | (cases h <;> (repeat (first | refine fg_ ?_ | refine pg_ ?_ | refine qg_ ?_ | refine an_ ?_ | refine ip_ ?_ | refine in_ ?_ | (refine ⟨_, (by first | exact fi_Check_con ‹_› | exact fi_element_con ‹_›), ?_⟩; refine go_ ?_))) <;> (first | done | rfl | trivial | (simp; done)))
  | (
    (with_reducible have h : fi_check.l0 _ _ _ _ _ _ = some r := h)
    repeat (first | refine fg_ ?_ | refine pg_ ?_ | refine qg_ ?_ | refine an_ ?_ | refine ip_ ?_ | refine in_ ?_ | (refine ⟨_, (by first | exact fi_Check_con ‹_› | exact fi_element_con ‹_›), ?_⟩; refine go_ ?_))
    refine lp [(14, .row 25 (.sl 3 (.int .i64))), (15, .keep), (16, .keep), (2, .box)] fun X0 hX0 => ?_
    refine go_ ?_
    have key : ∀ k x14 x15 x16 x102000 x102001, fi_check.l0 k x14 x15 x16 x102000 x102001 = some r → X0 ⟨lkp .bot [(2, .ptr 4 0 []), (16, .ro (.int .i64) x16), (15, .ro (.int .i64) x15), (14, .ro (.sl 25 (.sl 3 (.int .i64))) x14)], lkp none [(4, some ⟨33, .pr (.int .i64) (.pr (.sl 3 (.int .i64)) (.un)), [(x102000, (x102001, ()))], true⟩)], 0⟩ := by
     refine sind fun k ih0 x14 x15 x16 x102000 x102001 h => hX0 _ ?_
     clear hX0
     rcases k with _ | k
     ·cases h
     unfold fi_check.l0 at h
     replace h := hs_ h
     refine go_ ?_
     repeat' (first | split at h | (refine bnf h fun t e h => ?_; (repeat (first | refine fg_ ?_ | refine pg_ ?_ | refine qg_ ?_ | refine an_ ?_ | refine ip_ ?_ | refine in_ ?_)); refine ⟨_, (by first | exact fi_Check_con e | exact fi_element_con e), ?_⟩; refine go_ ?_) | (refine bnf h fun t e h => ?_; (repeat (first | refine fg_ ?_ | refine pg_ ?_ | refine qg_ ?_ | refine an_ ?_ | refine ip_ ?_ | refine in_ ?_ | (refine ⟨_, (by first | exact fi_Check_con ‹_› | exact fi_element_con ‹_›), ?_⟩; refine go_ ?_))); refine ⟨_, (by first | exact fi_Check_con e | exact fi_element_con e), ?_⟩; refine go_ ?_) | fail)
     all_goals (first | ((repeat (first | refine fg_ ?_ | refine pg_ ?_ | refine qg_ ?_ | refine an_ ?_ | refine ip_ ?_ | refine in_ ?_ | (refine ⟨_, (by first | exact fi_Check_con ‹_› | exact fi_element_con ‹_›), ?_⟩; refine go_ ?_))); exact ih0 _ (by omega) _ _ _ _ _ h) | (cases h <;> (repeat (first | refine fg_ ?_ | refine pg_ ?_ | refine qg_ ?_ | refine an_ ?_ | refine ip_ ?_ | refine in_ ?_ | (refine ⟨_, (by first | exact fi_Check_con ‹_› | exact fi_element_con ‹_›), ?_⟩; refine go_ ?_))) <;> (first | done | rfl | trivial | (simp; done))))
    exact key _ _ _ _ _ _ h)
theorem fi_Mul_con {k : Nat} {a0_0 : Int} {l0_1 : List Int} {l1 : List Int} {l2 : List Int} {r1 : List Int} {r2 : Int} (h : fi_Mul.f k a0_0 l0_1 l1 l2 = some (r1, r2)) : Con Try.prog 18 [⟨.pr (.int .i64) (.pr (.sl 3 (.int .i64)) (.un)), (a0_0, (l0_1, ()))⟩, ⟨.sl 3 (.int .i64), l1⟩, ⟨.sl 3 (.int .i64), l2⟩] [(false, ⟨.sl 3 (.int .i64), r1⟩), (false, ⟨.int .i64, r2⟩)] := by
 refine con_ (ps := [0, 1, 2, 3, 6, 7, 8, 15]) (res := [(6, none), (7, none)]) ?_ Try.func18 Try.ntmps18
 refine go_ ?_
 unfold fi_Mul.f at h
 replace h := hs_ h
 repeat' (first | split at h | (refine bnf h fun t e h => ?_; (repeat (first | refine fg_ ?_ | refine pg_ ?_ | refine qg_ ?_ | refine an_ ?_ | refine ip_ ?_ | refine in_ ?_)); refine ⟨_, (by first | exact fi_check_con e | exact gFMul_con e), ?_⟩; refine go_ ?_) | (refine bnf h fun t e h => ?_; (repeat (first | refine fg_ ?_ | refine pg_ ?_ | refine qg_ ?_ | refine an_ ?_ | refine ip_ ?_ | refine in_ ?_ | (refine ⟨_, (by first | exact fi_check_con ‹_› | exact gFMul_con ‹_›), ?_⟩; refine go_ ?_))); refine ⟨_, (by first | exact fi_check_con e | exact gFMul_con e), ?_⟩; refine go_ ?_) | fail)
 all_goals (first | (cases h <;> (repeat (first | refine fg_ ?_ | refine pg_ ?_ | refine qg_ ?_ | refine an_ ?_ | refine ip_ ?_ | refine in_ ?_ | (refine ⟨_, (by first | exact fi_check_con ‹_› | exact gFMul_con ‹_›), ?_⟩; refine go_ ?_))) <;> (first | done | rfl | trivial | (simp; done))))
theorem r9Same_con {k : Nat} {l0 : List Int} {l1 : List Int} {r : Bool} (h : r9Same.f k l0 l1 = some r) : Con Try.prog 19 [⟨.sl 3 (.int .i64), l0⟩, ⟨.sl 3 (.int .i64), l1⟩] [(false, ⟨.bool, r⟩)] := by
 refine con_ (ps := [0, 1, 4, 5, 10, 14, 25]) (res := [(4, none)]) ?_ Try.func19 Try.ntmps19
 refine go_ ?_
 unfold r9Same.f at h
 replace h := hs_ h
 repeat' (first | split at h | fail)
 all_goals first
  | (cases h <;> (repeat (first | refine fg_ ?_ | refine pg_ ?_ | refine qg_ ?_ | refine an_ ?_ | refine ip_ ?_ | refine in_ ?_)) <;> (first | done | rfl | trivial | (simp; done)))
  | (
    (with_reducible have h : r9Same.l0 _ _ _ _ = some r := h)
    repeat (first | refine fg_ ?_ | refine pg_ ?_ | refine qg_ ?_ | refine an_ ?_ | refine ip_ ?_ | refine in_ ?_)
    refine lp [(0, .row 3 (.int .i64)), (1, .row 3 (.int .i64)), (5, .keep)] fun X0 hX0 => ?_
    refine go_ ?_
    have key : ∀ k x0 x1 x5, r9Same.l0 k x0 x1 x5 = some r → X0 ⟨lkp .bot [(5, .ro (.int .i64) x5), (1, .ro (.sl 3 (.int .i64)) x1), (0, .ro (.sl 3 (.int .i64)) x0)], lkp none [], 0⟩ := by
     refine sind fun k ih0 x0 x1 x5 h => hX0 _ ?_
     clear hX0
     rcases k with _ | k
     ·cases h
     unfold r9Same.l0 at h
     replace h := hs_ h
     refine go_ ?_
     repeat' (first | split at h | fail)
     all_goals (first | ((repeat (first | refine fg_ ?_ | refine pg_ ?_ | refine qg_ ?_ | refine an_ ?_ | refine ip_ ?_ | refine in_ ?_)); exact ih0 _ (by omega) _ _ _ h) | (cases h <;> (repeat (first | refine fg_ ?_ | refine pg_ ?_ | refine qg_ ?_ | refine an_ ?_ | refine ip_ ?_ | refine in_ ?_)) <;> (first | done | rfl | trivial | (simp; done))))
    exact key _ _ _ _ h)
theorem r15Member_con {k : Nat} {a0_0 : Int} {l0_1 : List Int} {l1 : List Int} {r : Int} (h : r15Member.f k a0_0 l0_1 l1 = some r) : Con Try.prog 31 [⟨.pr (.int .i64) (.pr (.sl 3 (.int .i64)) (.un)), (a0_0, (l0_1, ()))⟩, ⟨.sl 3 (.int .i64), l1⟩] [(false, ⟨.int .i64, r⟩)] := by
 refine con_ (ps := [0, 1, 2, 4, 5, 19]) (res := [(4, none)]) ?_ Try.func31 Try.ntmps31
 refine go_ ?_
 unfold r15Member.f at h
 replace h := hs_ h
 repeat' (first | split at h | (refine bnf h fun t e h => ?_; (repeat (first | refine fg_ ?_ | refine pg_ ?_ | refine qg_ ?_ | refine an_ ?_ | refine ip_ ?_ | refine in_ ?_)); refine ⟨_, (by first | exact r9Check_con e), ?_⟩; refine go_ ?_) | (refine bnf h fun t e h => ?_; (repeat (first | refine fg_ ?_ | refine pg_ ?_ | refine qg_ ?_ | refine an_ ?_ | refine ip_ ?_ | refine in_ ?_ | (refine ⟨_, (by first | exact r9Check_con ‹_›), ?_⟩; refine go_ ?_))); refine ⟨_, (by first | exact r9Check_con e), ?_⟩; refine go_ ?_) | fail)
 all_goals (first | (cases h <;> (repeat (first | refine fg_ ?_ | refine pg_ ?_ | refine qg_ ?_ | refine an_ ?_ | refine ip_ ?_ | refine in_ ?_ | (refine ⟨_, (by first | exact r9Check_con ‹_›), ?_⟩; refine go_ ?_))) <;> (first | done | rfl | trivial | (simp; done))))
theorem natural_Check_con {k : Nat} {a0 : ByteArray} {r : Int} (h : natural_Check.f k a0 = some r) : Con Try.prog 68 [⟨.str, a0⟩] [(false, ⟨.int .i64, r⟩)] := by
 refine con_ (ps := [0, 2, 10, 13]) (res := [(2, none)]) ?_ Try.func68 Try.ntmps68
 refine go_ ?_
 unfold natural_Check.f at h
 replace h := hs_ h
 repeat' (first | split at h | (rcases k with _ | k; (· cases h); unfold natural_Check.j0 at h; replace h := hs_ h) | fail)
 all_goals (first | (cases h <;> (repeat (first | refine fg_ ?_ | refine pg_ ?_ | refine qg_ ?_ | refine an_ ?_ | refine ip_ ?_ | refine in_ ?_)) <;> (first | done | rfl | trivial | (simp; done) | (exfalso; omega))))
theorem gFPowNat_con {k : Nat} {a0_0 : Int} {l0_1 : List Int} {l1 : List Int} {a2 : ByteArray} {r : List Int} (h : gFPowNat.f k a0_0 l0_1 l1 a2 = some r) : Con Try.prog 69 [⟨.pr (.pr (.int .i64) (.pr (.sl 3 (.int .i64)) (.un))) (.un), ((a0_0, (l0_1, ())), ())⟩, ⟨.sl 3 (.int .i64), l1⟩, ⟨.str, a2⟩] [(false, ⟨.sl 3 (.int .i64), r⟩)] := by
 refine con_ (ps := [0, 1, 2, 3, 6]) (res := [(6, none)]) ?_ Try.func69 Try.ntmps69
 refine go_ ?_
 unfold gFPowNat.f at h
 replace h := hs_ h
 repeat' (first | split at h | (refine bnf h fun t e h => ?_; (repeat (first | refine fg_ ?_ | refine pg_ ?_ | refine qg_ ?_ | refine an_ ?_ | refine ip_ ?_ | refine in_ ?_)); refine ⟨_, (by first | exact fp_PowMod_con e), ?_⟩; refine go_ ?_) | (refine bnf h fun t e h => ?_; (repeat (first | refine fg_ ?_ | refine pg_ ?_ | refine qg_ ?_ | refine an_ ?_ | refine ip_ ?_ | refine in_ ?_ | (refine ⟨_, (by first | exact fp_PowMod_con ‹_›), ?_⟩; refine go_ ?_))); refine ⟨_, (by first | exact fp_PowMod_con e), ?_⟩; refine go_ ?_) | fail)
 all_goals (first | (cases h <;> (repeat (first | refine fg_ ?_ | refine pg_ ?_ | refine qg_ ?_ | refine an_ ?_ | refine ip_ ?_ | refine in_ ?_ | (refine ⟨_, (by first | exact fp_PowMod_con ‹_›), ?_⟩; refine go_ ?_))) <;> (first | done | rfl | trivial | (simp; done))))
theorem fi_Pow_con {k : Nat} {a0_0 : Int} {l0_1 : List Int} {l1 : List Int} {a2 : ByteArray} {r1 : List Int} {r2 : Int} (h : fi_Pow.f k a0_0 l0_1 l1 a2 = some (r1, r2)) : Con Try.prog 34 [⟨.pr (.int .i64) (.pr (.sl 3 (.int .i64)) (.un)), (a0_0, (l0_1, ()))⟩, ⟨.sl 3 (.int .i64), l1⟩, ⟨.str, a2⟩] [(false, ⟨.sl 3 (.int .i64), r1⟩), (false, ⟨.int .i64, r2⟩)] := by
 refine con_ (ps := [0, 1, 2, 3, 6, 7, 8, 9, 15, 20]) (res := [(6, none), (7, none)]) ?_ Try.func34 Try.ntmps34
 refine go_ ?_
 unfold fi_Pow.f at h
 replace h := hs_ h
 repeat' (first | split at h | (refine bnf h fun t e h => ?_; (repeat (first | refine fg_ ?_ | refine pg_ ?_ | refine qg_ ?_ | refine an_ ?_ | refine ip_ ?_ | refine in_ ?_)); refine ⟨_, (by first | exact fi_check_con e | exact natural_Check_con e | exact gFPowNat_con e), ?_⟩; refine go_ ?_) | (refine bnf h fun t e h => ?_; (repeat (first | refine fg_ ?_ | refine pg_ ?_ | refine qg_ ?_ | refine an_ ?_ | refine ip_ ?_ | refine in_ ?_ | (refine ⟨_, (by first | exact fi_check_con ‹_› | exact natural_Check_con ‹_› | exact gFPowNat_con ‹_›), ?_⟩; refine go_ ?_))); refine ⟨_, (by first | exact fi_check_con e | exact natural_Check_con e | exact gFPowNat_con e), ?_⟩; refine go_ ?_) | fail)
 all_goals (first | (cases h <;> (repeat (first | refine fg_ ?_ | refine pg_ ?_ | refine qg_ ?_ | refine an_ ?_ | refine ip_ ?_ | refine in_ ?_ | (refine ⟨_, (by first | exact fi_check_con ‹_› | exact natural_Check_con ‹_› | exact gFPowNat_con ‹_›), ?_⟩; refine go_ ?_))) <;> (first | done | rfl | trivial | (simp; done))))
theorem gFOrder_con {k : Nat} {a0_0 : Int} {l0_1 : List Int} {l1 : List Int} {a2 : Int} {r : Int} (h : gFOrder.f k a0_0 l0_1 l1 a2 = some r) : Con Try.prog 73 [⟨.pr (.pr (.int .i64) (.pr (.sl 3 (.int .i64)) (.un))) (.un), ((a0_0, (l0_1, ())), ())⟩, ⟨.sl 3 (.int .i64), l1⟩, ⟨.int .i64, a2⟩] [(false, ⟨.int .i64, r⟩)] := by
 refine con_ (ps := [0, 1, 2, 3, 6, 7, 8, 11, 19, 20, 21, 22, 39]) (res := [(6, none)]) ?_ Try.func73 Try.ntmps73
 refine go_ ?_
 unfold gFOrder.f at h
 replace h := hs_ h
 repeat' (first | split at h | (refine bnf h fun t e h => ?_; (repeat (first | refine fg_ ?_ | refine pg_ ?_ | refine qg_ ?_ | refine an_ ?_ | refine ip_ ?_ | refine in_ ?_)); refine ⟨_, (by first | exact rs_Factor_con e | exact gFPow_con e | exact gf_IsOne_con e), ?_⟩; refine go_ ?_) | (refine bnf h fun t e h => ?_; (repeat (first | refine fg_ ?_ | refine pg_ ?_ | refine qg_ ?_ | refine an_ ?_ | refine ip_ ?_ | refine in_ ?_ | (refine ⟨_, (by first | exact rs_Factor_con ‹_› | exact gFPow_con ‹_› | exact gf_IsOne_con ‹_›), ?_⟩; refine go_ ?_))); refine ⟨_, (by first | exact rs_Factor_con e | exact gFPow_con e | exact gf_IsOne_con e), ?_⟩; refine go_ ?_) | fail)
 all_goals first
  | (cases h <;> (repeat (first | refine fg_ ?_ | refine pg_ ?_ | refine qg_ ?_ | refine an_ ?_ | refine ip_ ?_ | refine in_ ?_ | (refine ⟨_, (by first | exact rs_Factor_con ‹_› | exact gFPow_con ‹_› | exact gf_IsOne_con ‹_›), ?_⟩; refine go_ ?_))) <;> (first | done | rfl | trivial | (simp; done)))
  | (
    (with_reducible have h : gFOrder.l0 _ _ _ _ _ _ _ _ = some r := h)
    repeat (first | refine fg_ ?_ | refine pg_ ?_ | refine qg_ ?_ | refine an_ ?_ | refine ip_ ?_ | refine in_ ?_ | (refine ⟨_, (by first | exact rs_Factor_con ‹_› | exact gFPow_con ‹_› | exact gf_IsOne_con ‹_›), ?_⟩; refine go_ ?_))
    refine lp [(1, .row 3 (.int .i64)), (7, .keep), (19, .row 107 (.pr (.int .i64) (.pr (.int .i64) (.un)))), (20, .keep), (21, .keep), (3, .box)] fun X0 hX0 => ?_
    refine go_ ?_
    have key : ∀ k x1 x7 x19 x20 x21 x102000 x102001, gFOrder.l0 k x1 x7 x19 x20 x21 x102000 x102001 = some r → X0 ⟨lkp .bot [(3, .ptr 6 0 []), (21, .ro (.int .i64) x21), (20, .ro (.int .i64) x20), (19, .ro (.sl 107 (.pr (.int .i64) (.pr (.int .i64) (.un)))) (List.map (fun s : S107 => (s.f0, (s.f1, ()))) x19)), (7, .ro (.int .i64) x7), (1, .ro (.sl 3 (.int .i64)) x1)], lkp none [(6, some ⟨68, .pr (.pr (.int .i64) (.pr (.sl 3 (.int .i64)) (.un))) (.un), [((x102000, (x102001, ())), ())], true⟩)], 0⟩ := by
     refine sind fun k ih0 x1 x7 x19 x20 x21 x102000 x102001 h => hX0 _ ?_
     clear hX0
     rcases k with _ | k
     ·cases h
     unfold gFOrder.l0 at h
     replace h := hs_ h
     refine go_ ?_
     repeat' (first | split at h | (refine bnf h fun t e h => ?_; (repeat (first | refine fg_ ?_ | refine pg_ ?_ | refine qg_ ?_ | refine an_ ?_ | refine ip_ ?_ | refine in_ ?_)); refine ⟨_, (by first | exact rs_Factor_con e | exact gFPow_con e | exact gf_IsOne_con e), ?_⟩; refine go_ ?_) | (refine bnf h fun t e h => ?_; (repeat (first | refine fg_ ?_ | refine pg_ ?_ | refine qg_ ?_ | refine an_ ?_ | refine ip_ ?_ | refine in_ ?_ | (refine ⟨_, (by first | exact rs_Factor_con ‹_› | exact gFPow_con ‹_› | exact gf_IsOne_con ‹_›), ?_⟩; refine go_ ?_))); refine ⟨_, (by first | exact rs_Factor_con e | exact gFPow_con e | exact gf_IsOne_con e), ?_⟩; refine go_ ?_) | fail)
     all_goals first
      | ((repeat (first | refine fg_ ?_ | refine pg_ ?_ | refine qg_ ?_ | refine an_ ?_ | refine ip_ ?_ | refine in_ ?_ | (refine ⟨_, (by first | exact rs_Factor_con ‹_› | exact gFPow_con ‹_› | exact gf_IsOne_con ‹_›), ?_⟩; refine go_ ?_))); exact ih0 _ (by omega) _ _ _ _ _ _ _ h)
      | (cases h <;> (repeat (first | refine fg_ ?_ | refine pg_ ?_ | refine qg_ ?_ | refine an_ ?_ | refine ip_ ?_ | refine in_ ?_ | (refine ⟨_, (by first | exact rs_Factor_con ‹_› | exact gFPow_con ‹_› | exact gf_IsOne_con ‹_›), ?_⟩; refine go_ ?_))) <;> (first | done | rfl | trivial | (simp; done)))
      | (
       (with_reducible have h : gFOrder.l1 _ _ _ _ _ _ _ _ _ _ = some r := h)
       repeat (first | refine fg_ ?_ | refine pg_ ?_ | refine qg_ ?_ | refine an_ ?_ | refine ip_ ?_ | refine in_ ?_ | (refine ⟨_, (by first | exact rs_Factor_con ‹_› | exact gFPow_con ‹_› | exact gf_IsOne_con ‹_›), ?_⟩; refine go_ ?_))
       refine lp [(1, .row 3 (.int .i64)), (7, .keep), (19, .row 107 (.pr (.int .i64) (.pr (.int .i64) (.un)))), (20, .keep), (21, .keep), (3, .box), (11, .box)] fun X1 hX1 => ?_
       refine go_ ?_
       have key : ∀ j, j ≤ k → ∀ x1 x7 x19 x20 x21 x102000 x102001 x108000 x108001, gFOrder.l1 j x1 x7 x19 x20 x21 x102000 x102001 x108000 x108001 = some r → X1 ⟨lkp .bot [(11, .ptr 22 0 []), (3, .ptr 6 0 []), (21, .ro (.int .i64) x21), (20, .ro (.int .i64) x20), (19, .ro (.sl 107 (.pr (.int .i64) (.pr (.int .i64) (.un)))) (List.map (fun s : S107 => (s.f0, (s.f1, ()))) x19)), (7, .ro (.int .i64) x7), (1, .ro (.sl 3 (.int .i64)) x1)], lkp none [(22, some ⟨107, .pr (.int .i64) (.pr (.int .i64) (.un)), [(x108000, (x108001, ()))], true⟩), (6, some ⟨68, .pr (.pr (.int .i64) (.pr (.sl 3 (.int .i64)) (.un))) (.un), [((x102000, (x102001, ())), ())], true⟩)], 0⟩ := by
        refine sinb fun k hk1 ih1 x1 x7 x19 x20 x21 x102000 x102001 x108000 x108001 h => hX1 _ ?_
        clear hX1
        rcases k with _ | k
        ·cases h
        unfold gFOrder.l1 at h
        replace h := hs_ h
        refine go_ ?_
        repeat' (first | split at h | (refine bnf h fun t e h => ?_; (repeat (first | refine fg_ ?_ | refine pg_ ?_ | refine qg_ ?_ | refine an_ ?_ | refine ip_ ?_ | refine in_ ?_)); refine ⟨_, (by first | exact rs_Factor_con e | exact gFPow_con e | exact gf_IsOne_con e), ?_⟩; refine go_ ?_) | (refine bnf h fun t e h => ?_; (repeat (first | refine fg_ ?_ | refine pg_ ?_ | refine qg_ ?_ | refine an_ ?_ | refine ip_ ?_ | refine in_ ?_ | (refine ⟨_, (by first | exact rs_Factor_con ‹_› | exact gFPow_con ‹_› | exact gf_IsOne_con ‹_›), ?_⟩; refine go_ ?_))); refine ⟨_, (by first | exact rs_Factor_con e | exact gFPow_con e | exact gf_IsOne_con e), ?_⟩; refine go_ ?_) | fail)
        all_goals (first | ((repeat (first | refine fg_ ?_ | refine pg_ ?_ | refine qg_ ?_ | refine an_ ?_ | refine ip_ ?_ | refine in_ ?_ | (refine ⟨_, (by first | exact rs_Factor_con ‹_› | exact gFPow_con ‹_› | exact gf_IsOne_con ‹_›), ?_⟩; refine go_ ?_))); exact ih1 _ (by omega) _ _ _ _ _ _ _ _ _ h) | ((repeat (first | refine fg_ ?_ | refine pg_ ?_ | refine qg_ ?_ | refine an_ ?_ | refine ip_ ?_ | refine in_ ?_ | (refine ⟨_, (by first | exact rs_Factor_con ‹_› | exact gFPow_con ‹_› | exact gf_IsOne_con ‹_›), ?_⟩; refine go_ ?_))); exact ih0 _ (by omega) _ _ _ _ _ _ _ h) | (cases h <;> (repeat (first | refine fg_ ?_ | refine pg_ ?_ | refine qg_ ?_ | refine an_ ?_ | refine ip_ ?_ | refine in_ ?_ | (refine ⟨_, (by first | exact rs_Factor_con ‹_› | exact gFPow_con ‹_› | exact gf_IsOne_con ‹_›), ?_⟩; refine go_ ?_))) <;> (first | done | rfl | trivial | (simp; done))))
       exact key _ (by omega) _ _ _ _ _ _ _ _ _ h)
    exact key _ _ _ _ _ _ _ _ h)
theorem fi_Order_con {k : Nat} {a0_0 : Int} {l0_1 : List Int} {l1 : List Int} {r1 : Int} {r2 : Int} (h : fi_Order.f k a0_0 l0_1 l1 = some (r1, r2)) : Con Try.prog 37 [⟨.pr (.int .i64) (.pr (.sl 3 (.int .i64)) (.un)), (a0_0, (l0_1, ()))⟩, ⟨.sl 3 (.int .i64), l1⟩] [(false, ⟨.int .i64, r1⟩), (false, ⟨.int .i64, r2⟩)] := by
 refine con_ (ps := [0, 1, 2, 4, 5, 6, 7, 8, 14, 22, 26]) (res := [(4, none), (5, none)]) ?_ Try.func37 Try.ntmps37
 refine go_ ?_
 unfold fi_Order.f at h
 replace h := hs_ h
 repeat' (first | split at h | (refine bnf h fun t e h => ?_; (repeat (first | refine fg_ ?_ | refine pg_ ?_ | refine qg_ ?_ | refine an_ ?_ | refine ip_ ?_ | refine in_ ?_)); refine ⟨_, (by first | exact fi_check_con e | exact fi_size_con e | exact gFOrder_con e), ?_⟩; refine go_ ?_) | (refine bnf h fun t e h => ?_; (repeat (first | refine fg_ ?_ | refine pg_ ?_ | refine qg_ ?_ | refine an_ ?_ | refine ip_ ?_ | refine in_ ?_ | (refine ⟨_, (by first | exact fi_check_con ‹_› | exact fi_size_con ‹_› | exact gFOrder_con ‹_›), ?_⟩; refine go_ ?_))); refine ⟨_, (by first | exact fi_check_con e | exact fi_size_con e | exact gFOrder_con e), ?_⟩; refine go_ ?_) | fail)
 all_goals (first | (cases h <;> (repeat (first | refine fg_ ?_ | refine pg_ ?_ | refine qg_ ?_ | refine an_ ?_ | refine ip_ ?_ | refine in_ ?_ | (refine ⟨_, (by first | exact fi_check_con ‹_› | exact fi_size_con ‹_› | exact gFOrder_con ‹_›), ?_⟩; refine go_ ?_))) <;> (first | done | rfl | trivial | (simp; done))))
theorem gFNumber_con {k : Nat} {a0_0 : Int} {l0_1 : List Int} {l1 : List Int} {r : Int} (h : gFNumber.f k a0_0 l0_1 l1 = some r) : Con Try.prog 74 [⟨.pr (.pr (.int .i64) (.pr (.sl 3 (.int .i64)) (.un))) (.un), ((a0_0, (l0_1, ())), ())⟩, ⟨.sl 3 (.int .i64), l1⟩] [(false, ⟨.int .i64, r⟩)] := by
 refine con_ (ps := [0, 1, 2, 4, 5, 6, 11]) (res := [(4, none)]) ?_ Try.func74 Try.ntmps74
 refine go_ ?_
 unfold gFNumber.f at h
 replace h := hs_ h
 repeat' (first | split at h | fail)
 all_goals first
  | (cases h <;> (repeat (first | refine fg_ ?_ | refine pg_ ?_ | refine qg_ ?_ | refine an_ ?_ | refine ip_ ?_ | refine in_ ?_)) <;> (first | done | rfl | trivial | (simp; done)))
  | (
    (with_reducible have h : gFNumber.l0 _ _ _ _ _ _ = some r := h)
    repeat (first | refine fg_ ?_ | refine pg_ ?_ | refine qg_ ?_ | refine an_ ?_ | refine ip_ ?_ | refine in_ ?_)
    refine lp [(1, .row 3 (.int .i64)), (5, .keep), (6, .keep), (2, .box)] fun X0 hX0 => ?_
    refine go_ ?_
    have key : ∀ k x1 x5 x6 x102000 x102001, gFNumber.l0 k x1 x5 x6 x102000 x102001 = some r → X0 ⟨lkp .bot [(2, .ptr 4 0 []), (6, .ro (.int .i64) x6), (5, .ro (.int .i64) x5), (1, .ro (.sl 3 (.int .i64)) x1)], lkp none [(4, some ⟨68, .pr (.pr (.int .i64) (.pr (.sl 3 (.int .i64)) (.un))) (.un), [((x102000, (x102001, ())), ())], true⟩)], 0⟩ := by
     refine sind fun k ih0 x1 x5 x6 x102000 x102001 h => hX0 _ ?_
     clear hX0
     rcases k with _ | k
     ·cases h
     unfold gFNumber.l0 at h
     replace h := hs_ h
     refine go_ ?_
     repeat' (first | split at h | fail)
     all_goals (first | ((repeat (first | refine fg_ ?_ | refine pg_ ?_ | refine qg_ ?_ | refine an_ ?_ | refine ip_ ?_ | refine in_ ?_)); exact ih0 _ (by omega) _ _ _ _ _ h) | (cases h <;> (repeat (first | refine fg_ ?_ | refine pg_ ?_ | refine qg_ ?_ | refine an_ ?_ | refine ip_ ?_ | refine in_ ?_)) <;> (first | done | rfl | trivial | (simp; done))))
    exact key _ _ _ _ _ _ h)
theorem fi_Number_con {k : Nat} {a0_0 : Int} {l0_1 : List Int} {l1 : List Int} {r1 : Int} {r2 : Int} (h : fi_Number.f k a0_0 l0_1 l1 = some (r1, r2)) : Con Try.prog 38 [⟨.pr (.int .i64) (.pr (.sl 3 (.int .i64)) (.un)), (a0_0, (l0_1, ()))⟩, ⟨.sl 3 (.int .i64), l1⟩] [(false, ⟨.int .i64, r1⟩), (false, ⟨.int .i64, r2⟩)] := by
 refine con_ (ps := [0, 1, 2, 4, 5, 6, 8, 14, 22]) (res := [(4, none), (5, none)]) ?_ Try.func38 Try.ntmps38
 refine go_ ?_
 unfold fi_Number.f at h
 replace h := hs_ h
 repeat' (first | split at h | (refine bnf h fun t e h => ?_; (repeat (first | refine fg_ ?_ | refine pg_ ?_ | refine qg_ ?_ | refine an_ ?_ | refine ip_ ?_ | refine in_ ?_)); refine ⟨_, (by first | exact fi_check_con e | exact fi_size_con e | exact gFNumber_con e), ?_⟩; refine go_ ?_) | (refine bnf h fun t e h => ?_; (repeat (first | refine fg_ ?_ | refine pg_ ?_ | refine qg_ ?_ | refine an_ ?_ | refine ip_ ?_ | refine in_ ?_ | (refine ⟨_, (by first | exact fi_check_con ‹_› | exact fi_size_con ‹_› | exact gFNumber_con ‹_›), ?_⟩; refine go_ ?_))); refine ⟨_, (by first | exact fi_check_con e | exact fi_size_con e | exact gFNumber_con e), ?_⟩; refine go_ ?_) | fail)
 all_goals (first | (cases h <;> (repeat (first | refine fg_ ?_ | refine pg_ ?_ | refine qg_ ?_ | refine an_ ?_ | refine ip_ ?_ | refine in_ ?_ | (refine ⟨_, (by first | exact fi_check_con ‹_› | exact fi_size_con ‹_› | exact gFNumber_con ‹_›), ?_⟩; refine go_ ?_))) <;> (first | done | rfl | trivial | (simp; done))))
theorem fi_Modulus_con {k : Nat} {a0 : Int} {a1 : Int} {r1 : List Int} {r2 : Int} (h : fi_Modulus.f k a0 a1 = some (r1, r2)) : Con Try.prog 11 [⟨.int .i64, a0⟩, ⟨.int .i64, a1⟩] [(false, ⟨.sl 3 (.int .i64), r1⟩), (false, ⟨.int .i64, r2⟩)] := by
 refine con_ (ps := [0, 1, 4, 5, 6, 7, 8, 12, 19, 27, 33, 42]) (res := [(4, none), (5, none)]) ?_ Try.func11 Try.ntmps11
 refine go_ ?_
 unfold fi_Modulus.f at h
 replace h := hs_ h
 repeat' (first | split at h | (refine bnf h fun t e h => ?_; (repeat (first | refine fg_ ?_ | refine pg_ ?_ | refine qg_ ?_ | refine an_ ?_ | refine ip_ ?_ | refine in_ ?_)); refine ⟨_, (by first | exact pm_Check_con e | exact fp_Irreducible_con e), ?_⟩; refine go_ ?_) | (refine bnf h fun t e h => ?_; (repeat (first | refine fg_ ?_ | refine pg_ ?_ | refine qg_ ?_ | refine an_ ?_ | refine ip_ ?_ | refine in_ ?_ | (refine ⟨_, (by first | exact pm_Check_con ‹_› | exact fp_Irreducible_con ‹_›), ?_⟩; refine go_ ?_))); refine ⟨_, (by first | exact pm_Check_con e | exact fp_Irreducible_con e), ?_⟩; refine go_ ?_) | (rcases k with _ | k; (· cases h); unfold fi_Modulus.j0 at h; replace h := hs_ h) | (rcases k with _ | k; (· cases h); unfold fi_Modulus.j1 at h; replace h := hs_ h) | fail)
 all_goals first
  | (cases h <;> (repeat (first | refine fg_ ?_ | refine pg_ ?_ | refine qg_ ?_ | refine an_ ?_ | refine ip_ ?_ | refine in_ ?_ | (refine ⟨_, (by first | exact pm_Check_con ‹_› | exact fp_Irreducible_con ‹_›), ?_⟩; refine go_ ?_))) <;> (first | done | rfl | trivial | (simp; done)))
  | (
    (with_reducible have h : fi_Modulus.l0 _ _ _ _ = some (r1, r2) := h)
    repeat (first | refine fg_ ?_ | refine pg_ ?_ | refine qg_ ?_ | refine an_ ?_ | refine ip_ ?_ | refine in_ ?_ | (refine ⟨_, (by first | exact pm_Check_con ‹_› | exact fp_Irreducible_con ‹_›), ?_⟩; refine go_ ?_))
    refine lp [(0, .keep), (1, .keep), (7, .own 3 (.int .i64))] fun X0 hX0 => ?_
    refine go_ ?_
    have key : ∀ k x0 x1 x7, fi_Modulus.l0 k x0 x1 x7 = some (r1, r2) → X0 ⟨lkp .bot [(7, .own 14), (1, .ro (.int .i64) x1), (0, .ro (.int .i64) x0)], lkp none [(14, some ⟨3, .int .i64, x7, true⟩)], 0⟩ := by
     refine sind fun k ih0 x0 x1 x7 h => hX0 _ ?_
     clear hX0
     rcases k with _ | k
     ·cases h
     unfold fi_Modulus.l0 at h
     replace h := hs_ h
     refine go_ ?_
     repeat' (first | split at h | (refine bnf h fun t e h => ?_; (repeat (first | refine fg_ ?_ | refine pg_ ?_ | refine qg_ ?_ | refine an_ ?_ | refine ip_ ?_ | refine in_ ?_)); refine ⟨_, (by first | exact pm_Check_con e | exact fp_Irreducible_con e), ?_⟩; refine go_ ?_) | (refine bnf h fun t e h => ?_; (repeat (first | refine fg_ ?_ | refine pg_ ?_ | refine qg_ ?_ | refine an_ ?_ | refine ip_ ?_ | refine in_ ?_ | (refine ⟨_, (by first | exact pm_Check_con ‹_› | exact fp_Irreducible_con ‹_›), ?_⟩; refine go_ ?_))); refine ⟨_, (by first | exact pm_Check_con e | exact fp_Irreducible_con e), ?_⟩; refine go_ ?_) | (rcases k with _ | k; (· cases h); unfold fi_Modulus.j0 at h; replace h := hs_ h) | (rcases k with _ | k; (· cases h); unfold fi_Modulus.j1 at h; replace h := hs_ h) | fail)
     all_goals first
      | ((repeat (first | refine fg_ ?_ | refine pg_ ?_ | refine qg_ ?_ | refine an_ ?_ | refine ip_ ?_ | refine in_ ?_ | (refine ⟨_, (by first | exact pm_Check_con ‹_› | exact fp_Irreducible_con ‹_›), ?_⟩; refine go_ ?_))); exact ih0 _ (by omega) _ _ _ h)
      | (cases h <;> (repeat (first | refine fg_ ?_ | refine pg_ ?_ | refine qg_ ?_ | refine an_ ?_ | refine ip_ ?_ | refine in_ ?_ | (refine ⟨_, (by first | exact pm_Check_con ‹_› | exact fp_Irreducible_con ‹_›), ?_⟩; refine go_ ?_))) <;> (first | done | rfl | trivial | (simp; done)))
      | (
       (with_reducible have h : fi_Modulus.l1 _ _ _ _ _ = some (r1, r2) := h)
       repeat (first | refine fg_ ?_ | refine pg_ ?_ | refine qg_ ?_ | refine an_ ?_ | refine ip_ ?_ | refine in_ ?_ | (refine ⟨_, (by first | exact pm_Check_con ‹_› | exact fp_Irreducible_con ‹_›), ?_⟩; refine go_ ?_))
       refine lp [(0, .keep), (1, .keep), (7, .own 3 (.int .i64)), (8, .keep)] fun X1 hX1 => ?_
       refine go_ ?_
       have key : ∀ j, j ≤ k → ∀ x0 x1 x7 x8, fi_Modulus.l1 j x0 x1 x7 x8 = some (r1, r2) → X1 ⟨lkp .bot [(8, .ro (.int .i64) x8), (7, .own 14), (1, .ro (.int .i64) x1), (0, .ro (.int .i64) x0)], lkp none [(14, some ⟨3, .int .i64, x7, true⟩)], 0⟩ := by
        refine sinb fun k hk1 ih1 x0 x1 x7 x8 h => hX1 _ ?_
        clear hX1
        rcases k with _ | k
        ·cases h
        unfold fi_Modulus.l1 at h
        replace h := hs_ h
        refine go_ ?_
        repeat' (first | split at h | (refine bnf h fun t e h => ?_; (repeat (first | refine fg_ ?_ | refine pg_ ?_ | refine qg_ ?_ | refine an_ ?_ | refine ip_ ?_ | refine in_ ?_)); refine ⟨_, (by first | exact pm_Check_con e | exact fp_Irreducible_con e), ?_⟩; refine go_ ?_) | (refine bnf h fun t e h => ?_; (repeat (first | refine fg_ ?_ | refine pg_ ?_ | refine qg_ ?_ | refine an_ ?_ | refine ip_ ?_ | refine in_ ?_ | (refine ⟨_, (by first | exact pm_Check_con ‹_› | exact fp_Irreducible_con ‹_›), ?_⟩; refine go_ ?_))); refine ⟨_, (by first | exact pm_Check_con e | exact fp_Irreducible_con e), ?_⟩; refine go_ ?_) | (rcases k with _ | k; (· cases h); unfold fi_Modulus.j0 at h; replace h := hs_ h) | (rcases k with _ | k; (· cases h); unfold fi_Modulus.j1 at h; replace h := hs_ h) | fail)
        all_goals (first | ((repeat (first | refine fg_ ?_ | refine pg_ ?_ | refine qg_ ?_ | refine an_ ?_ | refine ip_ ?_ | refine in_ ?_ | (refine ⟨_, (by first | exact pm_Check_con ‹_› | exact fp_Irreducible_con ‹_›), ?_⟩; refine go_ ?_))); exact ih1 _ (by omega) _ _ _ _ h) | ((repeat (first | refine fg_ ?_ | refine pg_ ?_ | refine qg_ ?_ | refine an_ ?_ | refine ip_ ?_ | refine in_ ?_ | (refine ⟨_, (by first | exact pm_Check_con ‹_› | exact fp_Irreducible_con ‹_›), ?_⟩; refine go_ ?_))); exact ih0 _ (by omega) _ _ _ h) | (cases h <;> (repeat (first | refine fg_ ?_ | refine pg_ ?_ | refine qg_ ?_ | refine an_ ?_ | refine ip_ ?_ | refine in_ ?_ | (refine ⟨_, (by first | exact pm_Check_con ‹_› | exact fp_Irreducible_con ‹_›), ?_⟩; refine go_ ?_))) <;> (first | done | rfl | trivial | (simp; done))))
       exact key _ (by omega) _ _ _ _ h)
    exact key _ _ _ _ h)
theorem cmp_isNaN_int_con {a0 : Int} {r : Bool} (h : cmp_isNaN_int.f a0 = some r) : Con Try.prog 121 [⟨.int .i64, a0⟩] [(false, ⟨.bool, r⟩)] := by
 refine con_ (ps := [0, 2]) (res := [(2, none)]) ?_ Try.func121 Try.ntmps121
 refine go_ ?_
 unfold cmp_isNaN_int.f at h
 replace h := hs_ h
 repeat' (first | split at h | fail)
 all_goals (first | (cases h <;> (repeat (first | refine fg_ ?_ | refine pg_ ?_ | refine qg_ ?_ | refine an_ ?_ | refine ip_ ?_ | refine in_ ?_)) <;> (first | done | rfl | trivial | (simp; done))))
theorem cmp_Compare_int_con {a0 : Int} {a1 : Int} {r : Int} (h : cmp_Compare_int.f a0 a1 = some r) : Con Try.prog 111 [⟨.int .i64, a0⟩, ⟨.int .i64, a1⟩] [(false, ⟨.int .i64, r⟩)] := by
 refine con_ (ps := [0, 1, 4, 5, 6, 11, 12, 13, 16, 19]) (res := [(4, none)]) ?_ Try.func111 Try.ntmps111
 refine go_ ?_
 unfold cmp_Compare_int.f at h
 replace h := hs_ h
 repeat' (first | split at h | (refine bnf h fun t e h => ?_; (repeat (first | refine fg_ ?_ | refine pg_ ?_ | refine qg_ ?_ | refine an_ ?_ | refine ip_ ?_ | refine in_ ?_)); refine ⟨_, (by first | exact cmp_isNaN_int_con e), ?_⟩; refine go_ ?_) | (refine bnf h fun t e h => ?_; (repeat (first | refine fg_ ?_ | refine pg_ ?_ | refine qg_ ?_ | refine an_ ?_ | refine ip_ ?_ | refine in_ ?_ | (refine ⟨_, (by first | exact cmp_isNaN_int_con ‹_›), ?_⟩; refine go_ ?_))); refine ⟨_, (by first | exact cmp_isNaN_int_con e), ?_⟩; refine go_ ?_) | fail)
 all_goals (first | (cases h <;> (repeat (first | refine fg_ ?_ | refine pg_ ?_ | refine qg_ ?_ | refine an_ ?_ | refine ip_ ?_ | refine in_ ?_ | (refine ⟨_, (by first | exact cmp_isNaN_int_con ‹_›), ?_⟩; refine go_ ?_))) <;> (first | done | rfl | trivial | (simp; done))))
theorem api_ModPoly_int_93_con {k : Nat} {l0 : List Int} {l1 : List Int} {r : Int} (h : api_ModPoly_int_93.f k l0 l1 = some r) : Con Try.prog 93 [⟨.sl 3 (.int .i64), l0⟩, ⟨.sl 3 (.int .i64), l1⟩] [(false, ⟨.int .i64, r⟩)] := by
 refine con_ (ps := [0, 1, 4, 5, 6, 7, 8, 9, 10, 11, 12, 19, 28, 35]) (res := [(4, none)]) ?_ Try.func93 Try.ntmps93
 refine go_ ?_
 unfold api_ModPoly_int_93.f at h
 replace h := hs_ h
 repeat' (first | split at h | (refine bnf h fun t e h => ?_; (repeat (first | refine fg_ ?_ | refine pg_ ?_ | refine qg_ ?_ | refine an_ ?_ | refine ip_ ?_ | refine in_ ?_)); refine ⟨_, (by first | exact cmp_Compare_int_con e), ?_⟩; refine go_ ?_) | (refine bnf h fun t e h => ?_; (repeat (first | refine fg_ ?_ | refine pg_ ?_ | refine qg_ ?_ | refine an_ ?_ | refine ip_ ?_ | refine in_ ?_ | (refine ⟨_, (by first | exact cmp_Compare_int_con ‹_›), ?_⟩; refine go_ ?_))); refine ⟨_, (by first | exact cmp_Compare_int_con e), ?_⟩; refine go_ ?_) | fail)
 all_goals first
  | (cases h <;> (repeat (first | refine fg_ ?_ | refine pg_ ?_ | refine qg_ ?_ | refine an_ ?_ | refine ip_ ?_ | refine in_ ?_ | (refine ⟨_, (by first | exact cmp_Compare_int_con ‹_›), ?_⟩; refine go_ ?_))) <;> (first | done | rfl | trivial | (simp; done)))
  | (
    (with_reducible have h : api_ModPoly_int_93.l0 _ _ _ _ _ _ = some r := h)
    repeat (first | refine fg_ ?_ | refine pg_ ?_ | refine qg_ ?_ | refine an_ ?_ | refine ip_ ?_ | refine in_ ?_ | (refine ⟨_, (by first | exact cmp_Compare_int_con ‹_›), ?_⟩; refine go_ ?_))
    refine lp [(0, .row 3 (.int .i64)), (1, .row 3 (.int .i64)), (9, .row 3 (.int .i64)), (10, .keep), (11, .keep)] fun X0 hX0 => ?_
    refine go_ ?_
    have key : ∀ k x0 x1 x9 x10 x11, api_ModPoly_int_93.l0 k x0 x1 x9 x10 x11 = some r → X0 ⟨lkp .bot [(11, .ro (.int .i64) x11), (10, .ro (.int .i64) x10), (9, .ro (.sl 3 (.int .i64)) x9), (1, .ro (.sl 3 (.int .i64)) x1), (0, .ro (.sl 3 (.int .i64)) x0)], lkp none [], 0⟩ := by
     refine sind fun k ih0 x0 x1 x9 x10 x11 h => hX0 _ ?_
     clear hX0
     rcases k with _ | k
     ·cases h
     unfold api_ModPoly_int_93.l0 at h
     replace h := hs_ h
     refine go_ ?_
     repeat' (first | split at h | (refine bnf h fun t e h => ?_; (repeat (first | refine fg_ ?_ | refine pg_ ?_ | refine qg_ ?_ | refine an_ ?_ | refine ip_ ?_ | refine in_ ?_)); refine ⟨_, (by first | exact cmp_Compare_int_con e), ?_⟩; refine go_ ?_) | (refine bnf h fun t e h => ?_; (repeat (first | refine fg_ ?_ | refine pg_ ?_ | refine qg_ ?_ | refine an_ ?_ | refine ip_ ?_ | refine in_ ?_ | (refine ⟨_, (by first | exact cmp_Compare_int_con ‹_›), ?_⟩; refine go_ ?_))); refine ⟨_, (by first | exact cmp_Compare_int_con e), ?_⟩; refine go_ ?_) | fail)
     all_goals (first | ((repeat (first | refine fg_ ?_ | refine pg_ ?_ | refine qg_ ?_ | refine an_ ?_ | refine ip_ ?_ | refine in_ ?_ | (refine ⟨_, (by first | exact cmp_Compare_int_con ‹_›), ?_⟩; refine go_ ?_))); exact ih0 _ (by omega) _ _ _ _ _ h) | (cases h <;> (repeat (first | refine fg_ ?_ | refine pg_ ?_ | refine qg_ ?_ | refine an_ ?_ | refine ip_ ?_ | refine in_ ?_ | (refine ⟨_, (by first | exact cmp_Compare_int_con ‹_›), ?_⟩; refine go_ ?_))) <;> (first | done | rfl | trivial | (simp; done))))
    exact key _ _ _ _ _ _ h)
theorem pm_Compare_con {k : Nat} {l0 : List Int} {l1 : List Int} {r : Int} (h : pm_Compare.f k l0 l1 = some r) : Con Try.prog 58 [⟨.sl 3 (.int .i64), l0⟩, ⟨.sl 3 (.int .i64), l1⟩] [(false, ⟨.int .i64, r⟩)] := by
 refine con_ (ps := [0, 1, 4, 9, 14]) (res := [(4, none)]) ?_ Try.func58 Try.ntmps58
 refine go_ ?_
 unfold pm_Compare.f at h
 replace h := hs_ h
 repeat' (first | split at h | (refine bnf h fun t e h => ?_; (repeat (first | refine fg_ ?_ | refine pg_ ?_ | refine qg_ ?_ | refine an_ ?_ | refine ip_ ?_ | refine in_ ?_)); refine ⟨_, (by first | exact api_ModPoly_int_93_con e), ?_⟩; refine go_ ?_) | (refine bnf h fun t e h => ?_; (repeat (first | refine fg_ ?_ | refine pg_ ?_ | refine qg_ ?_ | refine an_ ?_ | refine ip_ ?_ | refine in_ ?_ | (refine ⟨_, (by first | exact api_ModPoly_int_93_con ‹_›), ?_⟩; refine go_ ?_))); refine ⟨_, (by first | exact api_ModPoly_int_93_con e), ?_⟩; refine go_ ?_) | fail)
 all_goals (first | (cases h <;> (repeat (first | refine fg_ ?_ | refine pg_ ?_ | refine qg_ ?_ | refine an_ ?_ | refine ip_ ?_ | refine in_ ?_ | (refine ⟨_, (by first | exact api_ModPoly_int_93_con ‹_›), ?_⟩; refine go_ ?_))) <;> (first | done | rfl | trivial | (simp; done))))
theorem fp_Xgcd_con {k : Nat} {a0 : Int} {l1 : List Int} {l2 : List Int} {r1 : List Int} {r2 : List Int} {r3 : List Int} (h : fp_Xgcd.f k a0 l1 l2 = some (r1, r2, r3)) : Con Try.prog 98 [⟨.int .i64, a0⟩, ⟨.sl 3 (.int .i64), l1⟩, ⟨.sl 3 (.int .i64), l2⟩] [(false, ⟨.sl 3 (.int .i64), r1⟩), (false, ⟨.sl 3 (.int .i64), r2⟩), (false, ⟨.sl 3 (.int .i64), r3⟩)] := by
 refine con_ (ps := [0, 1, 2, 6, 7, 8, 9, 10, 11, 12, 13, 14, 15, 16, 17, 19, 23, 26, 44]) (res := [(6, none), (7, none), (8, none)]) ?_ Try.func98 Try.ntmps98
 refine go_ ?_
 unfold fp_Xgcd.f at h
 replace h := hs_ h
 repeat' (first | split at h | (refine bnf h fun t e h => ?_; (repeat (first | refine fg_ ?_ | refine pg_ ?_ | refine qg_ ?_ | refine an_ ?_ | refine ip_ ?_ | refine in_ ?_)); refine ⟨_, (by first | exact fp_Monic_con e | exact fp_Inv_con e | exact fp_DivMod_con e | exact fp_Mul_con e | exact fp_Sub_con e | exact fp_Scale_con e | exact fp_Rem_con e), ?_⟩; refine go_ ?_) | (refine bnf h fun t e h => ?_; (repeat (first | refine fg_ ?_ | refine pg_ ?_ | refine qg_ ?_ | refine an_ ?_ | refine ip_ ?_ | refine in_ ?_ | (refine ⟨_, (by first | exact fp_Monic_con ‹_› | exact fp_Inv_con ‹_› | exact fp_DivMod_con ‹_› | exact fp_Mul_con ‹_› | exact fp_Sub_con ‹_› | exact fp_Scale_con ‹_› | exact fp_Rem_con ‹_›), ?_⟩; refine go_ ?_))); refine ⟨_, (by first | exact fp_Monic_con e | exact fp_Inv_con e | exact fp_DivMod_con e | exact fp_Mul_con e | exact fp_Sub_con e | exact fp_Scale_con e | exact fp_Rem_con e), ?_⟩; refine go_ ?_) | fail)
 all_goals first
  | (cases h <;> (repeat (first | refine fg_ ?_ | refine pg_ ?_ | refine qg_ ?_ | refine an_ ?_ | refine ip_ ?_ | refine in_ ?_ | (refine ⟨_, (by first | exact fp_Monic_con ‹_› | exact fp_Inv_con ‹_› | exact fp_DivMod_con ‹_› | exact fp_Mul_con ‹_› | exact fp_Sub_con ‹_› | exact fp_Scale_con ‹_› | exact fp_Rem_con ‹_›), ?_⟩; refine go_ ?_))) <;> (first | done | rfl | trivial | (simp; done)))
  | (
    (with_reducible have h : fp_Xgcd.l0 _ _ _ _ _ _ _ _ = some (r1, r2, r3) := h)
    repeat (first | refine fg_ ?_ | refine pg_ ?_ | refine qg_ ?_ | refine an_ ?_ | refine ip_ ?_ | refine in_ ?_ | (refine ⟨_, (by first | exact fp_Monic_con ‹_› | exact fp_Inv_con ‹_› | exact fp_DivMod_con ‹_› | exact fp_Mul_con ‹_› | exact fp_Sub_con ‹_› | exact fp_Scale_con ‹_› | exact fp_Rem_con ‹_›), ?_⟩; refine go_ ?_))
    refine lp [(0, .keep), (1, .row 3 (.int .i64)), (2, .row 3 (.int .i64)), (9, .row 3 (.int .i64)), (10, .row 3 (.int .i64)), (11, .row 3 (.int .i64)), (12, .row 3 (.int .i64))] fun X0 hX0 => ?_
    refine go_ ?_
    have key : ∀ k x0 x1 x2 x9 x10 x11 x12, fp_Xgcd.l0 k x0 x1 x2 x9 x10 x11 x12 = some (r1, r2, r3) → X0 ⟨lkp .bot [(12, .ro (.sl 3 (.int .i64)) x12), (11, .ro (.sl 3 (.int .i64)) x11), (10, .ro (.sl 3 (.int .i64)) x10), (9, .ro (.sl 3 (.int .i64)) x9), (2, .ro (.sl 3 (.int .i64)) x2), (1, .ro (.sl 3 (.int .i64)) x1), (0, .ro (.int .i64) x0)], lkp none [], 0⟩ := by
     refine sind fun k ih0 x0 x1 x2 x9 x10 x11 x12 h => hX0 _ ?_
     clear hX0
     rcases k with _ | k
     ·cases h
     unfold fp_Xgcd.l0 at h
     replace h := hs_ h
     refine go_ ?_
     repeat' (first | split at h | (refine bnf h fun t e h => ?_; (repeat (first | refine fg_ ?_ | refine pg_ ?_ | refine qg_ ?_ | refine an_ ?_ | refine ip_ ?_ | refine in_ ?_)); refine ⟨_, (by first | exact fp_Monic_con e | exact fp_Inv_con e | exact fp_DivMod_con e | exact fp_Mul_con e | exact fp_Sub_con e | exact fp_Scale_con e | exact fp_Rem_con e), ?_⟩; refine go_ ?_) | (refine bnf h fun t e h => ?_; (repeat (first | refine fg_ ?_ | refine pg_ ?_ | refine qg_ ?_ | refine an_ ?_ | refine ip_ ?_ | refine in_ ?_ | (refine ⟨_, (by first | exact fp_Monic_con ‹_› | exact fp_Inv_con ‹_› | exact fp_DivMod_con ‹_› | exact fp_Mul_con ‹_› | exact fp_Sub_con ‹_› | exact fp_Scale_con ‹_› | exact fp_Rem_con ‹_›), ?_⟩; refine go_ ?_))); refine ⟨_, (by first | exact fp_Monic_con e | exact fp_Inv_con e | exact fp_DivMod_con e | exact fp_Mul_con e | exact fp_Sub_con e | exact fp_Scale_con e | exact fp_Rem_con e), ?_⟩; refine go_ ?_) | fail)
     all_goals (first | ((repeat (first | refine fg_ ?_ | refine pg_ ?_ | refine qg_ ?_ | refine an_ ?_ | refine ip_ ?_ | refine in_ ?_ | (refine ⟨_, (by first | exact fp_Monic_con ‹_› | exact fp_Inv_con ‹_› | exact fp_DivMod_con ‹_› | exact fp_Mul_con ‹_› | exact fp_Sub_con ‹_› | exact fp_Scale_con ‹_› | exact fp_Rem_con ‹_›), ?_⟩; refine go_ ?_))); exact ih0 _ (by omega) _ _ _ _ _ _ _ h) | (cases h <;> (repeat (first | refine fg_ ?_ | refine pg_ ?_ | refine qg_ ?_ | refine an_ ?_ | refine ip_ ?_ | refine in_ ?_ | (refine ⟨_, (by first | exact fp_Monic_con ‹_› | exact fp_Inv_con ‹_› | exact fp_DivMod_con ‹_› | exact fp_Mul_con ‹_› | exact fp_Sub_con ‹_› | exact fp_Scale_con ‹_› | exact fp_Rem_con ‹_›), ?_⟩; refine go_ ?_))) <;> (first | done | rfl | trivial | (simp; done))))
    exact key _ _ _ _ _ _ _ _ h)
theorem gFInverse_con {k : Nat} {a0_0 : Int} {l0_1 : List Int} {l1 : List Int} {r : List Int} (h : gFInverse.f k a0_0 l0_1 l1 = some r) : Con Try.prog 67 [⟨.pr (.pr (.int .i64) (.pr (.sl 3 (.int .i64)) (.un))) (.un), ((a0_0, (l0_1, ())), ())⟩, ⟨.sl 3 (.int .i64), l1⟩] [(false, ⟨.sl 3 (.int .i64), r⟩)] := by
 refine con_ (ps := [0, 1, 2, 4, 6]) (res := [(4, none)]) ?_ Try.func67 Try.ntmps67
 refine go_ ?_
 unfold gFInverse.f at h
 replace h := hs_ h
 repeat' (first | split at h | (refine bnf h fun t e h => ?_; (repeat (first | refine fg_ ?_ | refine pg_ ?_ | refine qg_ ?_ | refine an_ ?_ | refine ip_ ?_ | refine in_ ?_)); refine ⟨_, (by first | exact fp_Xgcd_con e | exact fp_Rem_con e), ?_⟩; refine go_ ?_) | (refine bnf h fun t e h => ?_; (repeat (first | refine fg_ ?_ | refine pg_ ?_ | refine qg_ ?_ | refine an_ ?_ | refine ip_ ?_ | refine in_ ?_ | (refine ⟨_, (by first | exact fp_Xgcd_con ‹_› | exact fp_Rem_con ‹_›), ?_⟩; refine go_ ?_))); refine ⟨_, (by first | exact fp_Xgcd_con e | exact fp_Rem_con e), ?_⟩; refine go_ ?_) | fail)
 all_goals (first | (cases h <;> (repeat (first | refine fg_ ?_ | refine pg_ ?_ | refine qg_ ?_ | refine an_ ?_ | refine ip_ ?_ | refine in_ ?_ | (refine ⟨_, (by first | exact fp_Xgcd_con ‹_› | exact fp_Rem_con ‹_›), ?_⟩; refine go_ ?_))) <;> (first | done | rfl | trivial | (simp; done))))
theorem fi_Inverse_con {k : Nat} {a0_0 : Int} {l0_1 : List Int} {l1 : List Int} {r1 : List Int} {r2 : Int} (h : fi_Inverse.f k a0_0 l0_1 l1 = some (r1, r2)) : Con Try.prog 33 [⟨.pr (.int .i64) (.pr (.sl 3 (.int .i64)) (.un)), (a0_0, (l0_1, ()))⟩, ⟨.sl 3 (.int .i64), l1⟩] [(false, ⟨.sl 3 (.int .i64), r1⟩), (false, ⟨.int .i64, r2⟩)] := by
 refine con_ (ps := [0, 1, 2, 4, 5, 6, 12, 16]) (res := [(4, none), (5, none)]) ?_ Try.func33 Try.ntmps33
 refine go_ ?_
 unfold fi_Inverse.f at h
 replace h := hs_ h
 repeat' (first | split at h | (refine bnf h fun t e h => ?_; (repeat (first | refine fg_ ?_ | refine pg_ ?_ | refine qg_ ?_ | refine an_ ?_ | refine ip_ ?_ | refine in_ ?_)); refine ⟨_, (by first | exact fi_check_con e | exact gFInverse_con e), ?_⟩; refine go_ ?_) | (refine bnf h fun t e h => ?_; (repeat (first | refine fg_ ?_ | refine pg_ ?_ | refine qg_ ?_ | refine an_ ?_ | refine ip_ ?_ | refine in_ ?_ | (refine ⟨_, (by first | exact fi_check_con ‹_› | exact gFInverse_con ‹_›), ?_⟩; refine go_ ?_))); refine ⟨_, (by first | exact fi_check_con e | exact gFInverse_con e), ?_⟩; refine go_ ?_) | fail)
 all_goals (first | (cases h <;> (repeat (first | refine fg_ ?_ | refine pg_ ?_ | refine qg_ ?_ | refine an_ ?_ | refine ip_ ?_ | refine in_ ?_ | (refine ⟨_, (by first | exact fi_check_con ‹_› | exact gFInverse_con ‹_›), ?_⟩; refine go_ ?_))) <;> (first | done | rfl | trivial | (simp; done))))
theorem l15four_con  {r1 : Int} {r2 : List Int} (h : l15four.f = some (r1, r2)) : Con Try.prog 42 [] [(false, ⟨.pr (.int .i64) (.pr (.sl 3 (.int .i64)) (.un)), (r1, (r2, ()))⟩)] := by
 refine con_ (ps := [0]) (res := [(0, some 33)]) ?_ Try.func42 Try.ntmps42
 refine go_ ?_
 unfold l15four.f at h
 replace h := hs_ h
 repeat' (first | split at h | fail)
 all_goals (first | (cases h <;> (repeat (first | refine fg_ ?_ | refine pg_ ?_ | refine qg_ ?_ | refine an_ ?_ | refine ip_ ?_ | refine in_ ?_)) <;> (first | done | rfl | trivial | (simp; done))))
end Go.Proofs.Ytalnaafmonmlmaa.Q
end

/- Machine side and arithmetic of the law, put together by a program of the session. No conditions. -/
import Derived.Test.YtillaipaanancaaGreatProg
import Derived.KernelRfl
import Derived.Test.YtillaipaanancaaGreatKdr14
import Derived.Test.YtillaipaanancaaGreatKdr17
import Derived.Test.YtillaipaanancaaGreatKdr18
section
namespace Go.Proofs.YtillaipaanancaaGreat.Q
open Go.RowKit Go.TT Go.Proofs.YtillaipaanancaaGreatW.PrintWords
set_option linter.unusedVariables false
def TE : TypeId → Option Ty
 | 3 => some (.int .i64)
 | 4 => some (.bool)
 | 5 => some (.int .u8)
 | 9 => some (.str)
 | 22 => some (.sl 3 (.int .i64))
 | 23 => some (.sl 3 (.int .i64))
 | 25 => some (.pr (.int .i64) (.pr (.sl 3 (.int .i64)) (.un)))
 | 27 => some (.pr (.sl 3 (.int .i64)) (.pr (.sl 3 (.int .i64)) (.un)))
 | 31 => some (.int .i64)
 | 40 => some (.sl 23 (.sl 3 (.int .i64)))
 | 43 => some (.sl 22 (.sl 3 (.int .i64)))
 | 52 => some (.ar (.pr (.int .i64) (.pr (.int .i64) (.un))))
 | 59 => some (.int .u16)
 | 62 => some (.str)
 | 72 => some (.sl 4 (.bool))
 | 73 => some (.ar (.pr (.int .u8) (.pr (.int .u8) (.un))))
 | 79 => some (.int .u64)
 | 87 => some (.pr (.pr (.int .i64) (.pr (.sl 3 (.int .i64)) (.un))) (.un))
 | 91 => some (.mp (.int .i64) (.int .i64))
 | 130 => some (.sl 134 (.pr (.int .i64) (.pr (.int .i64) (.un))))
 | 134 => some (.pr (.int .i64) (.pr (.int .i64) (.un)))
 | 138 => some (.int .u64)
 | 144 => some (.sl 79 (.int .u64))
 | 146 => some (.sl 5 (.int .u8))
 | 163 => some (.int .i64)
 | 170 => some (.int .u32)
 | 183 => some (.int .u64)
 | _ => none
theorem TE_ok : ∀ e t, TE e = some t → TyOk Tryz.prog t e := by
 intro e t h
 unfold TE at h
 split at h <;> first | (injection h with h; subst h; exact tyChk_ok (by kernel_rfl)) | cases h
theorem sh_ {k : IntKind} {x y : Int} : shrT k x y = shr k x y := by unfold shr shrT; exact Int.fdiv_eq_ediv_of_nonneg _ (Int.le_of_lt (Int.pow_pos (by decide)))
theorem sl_ {k : IntKind} {x y : Int} : shlT k x y = shl k x y := rfl
theorem bt_ {s : ByteArray} {i : Int} : btT s i = bt s i := by
 unfold btT bt
 by_cases h : i.toNat < s.size
 ·rw [dif_pos h, Array.getD_eq_getD_getElem?, Array.getElem?_eq_getElem h]; rfl
 ·rw [dif_neg h, Array.getD_eq_getD_getElem?, Array.getElem?_eq_none (Nat.le_of_not_lt h)]; rfl
theorem sc_i64_1 {x : Int} : shr .i64 x 1 = x / 2 := rfl
theorem sc_i64_7 {x : Int} : shr .i64 x 7 = x / 128 := rfl
theorem sc_i64_8 {x : Int} : shr .i64 x 8 = x / 256 := rfl
theorem sc_i64_16 {x : Int} : shr .i64 x 16 = x / 65536 := rfl
theorem sc_i64_32 {x : Int} : shr .i64 x 32 = x / 4294967296 := rfl
theorem sc_u64_1 {x : Int} : shr .u64 x 1 = x / 2 := rfl
theorem sc_u64_7 {x : Int} : shr .u64 x 7 = x / 128 := rfl
theorem sc_u64_8 {x : Int} : shr .u64 x 8 = x / 256 := rfl
theorem sc_u64_16 {x : Int} : shr .u64 x 16 = x / 65536 := rfl
theorem sc_u64_32 {x : Int} : shr .u64 x 32 = x / 4294967296 := rfl
theorem sc_u8_1 {x : Int} : shr .u8 x 1 = x / 2 := rfl
theorem sc_u8_7 {x : Int} : shr .u8 x 7 = x / 128 := rfl
theorem rdm_134 {l : List S134} {i : Int} : List.getD (List.map (fun s : S134 => (s.f0, (s.f1, ()))) l) i.toNat ((0 : Int), ((0 : Int), ())) = ((rd_T134 l i).f0, ((rd_T134 l i).f1, ())) := by
 rw [List.getD_eq_getElem?_getD, List.getElem?_map]; unfold rd_T134; rw [List.getD_eq_getElem?_getD]; cases l[i.toNat]? <;> rfl
theorem wr_8 {n : Int} : wr .u8 n = n % 256 := by simp only [wr, IntKind.wrap]; simp [IntKind.bits, IntKind.signed]
theorem wr_u {n : Int} : wr .u64 n = IntKind.u64.wrap n := rfl
theorem wi_ {n : Int} : IntKind.i64.wrap n = wrap64 n := wr_64
theorem sn_ {xs : List Int} : strN xs = strOfNums xs := by
 unfold strN
 rw [foldl_push_bytes]
 simp [strOfNums, ByteArray.empty, ByteArray.emptyWithCapacity]
 try rfl
theorem mx_ {a b : Int} : (if b > a then b else a) = mx a b := rfl
theorem rd_ {l : List Int} {i : Int} : l.getD i.toNat 0 = rd l i := rfl
theorem te_3 : TE 3 = some ((.int .i64)) := rfl
theorem te_4 : TE 4 = some ((.bool)) := rfl
theorem te_5 : TE 5 = some ((.int .u8)) := rfl
theorem te_9 : TE 9 = some ((.str)) := rfl
theorem te_22 : TE 22 = some ((.sl 3 (.int .i64))) := rfl
theorem te_23 : TE 23 = some ((.sl 3 (.int .i64))) := rfl
theorem te_25 : TE 25 = some ((.pr (.int .i64) (.pr (.sl 3 (.int .i64)) (.un)))) := rfl
theorem te_27 : TE 27 = some ((.pr (.sl 3 (.int .i64)) (.pr (.sl 3 (.int .i64)) (.un)))) := rfl
theorem te_31 : TE 31 = some ((.int .i64)) := rfl
theorem te_40 : TE 40 = some ((.sl 23 (.sl 3 (.int .i64)))) := rfl
theorem te_43 : TE 43 = some ((.sl 22 (.sl 3 (.int .i64)))) := rfl
theorem te_52 : TE 52 = some ((.ar (.pr (.int .i64) (.pr (.int .i64) (.un))))) := rfl
theorem te_59 : TE 59 = some ((.int .u16)) := rfl
theorem te_62 : TE 62 = some ((.str)) := rfl
theorem te_72 : TE 72 = some ((.sl 4 (.bool))) := rfl
theorem te_73 : TE 73 = some ((.ar (.pr (.int .u8) (.pr (.int .u8) (.un))))) := rfl
theorem te_79 : TE 79 = some ((.int .u64)) := rfl
theorem te_87 : TE 87 = some ((.pr (.pr (.int .i64) (.pr (.sl 3 (.int .i64)) (.un))) (.un))) := rfl
theorem te_91 : TE 91 = some ((.mp (.int .i64) (.int .i64))) := rfl
theorem te_130 : TE 130 = some ((.sl 134 (.pr (.int .i64) (.pr (.int .i64) (.un))))) := rfl
theorem te_134 : TE 134 = some ((.pr (.int .i64) (.pr (.int .i64) (.un)))) := rfl
theorem te_138 : TE 138 = some ((.int .u64)) := rfl
theorem te_144 : TE 144 = some ((.sl 79 (.int .u64))) := rfl
theorem te_146 : TE 146 = some ((.sl 5 (.int .u8))) := rfl
theorem te_163 : TE 163 = some ((.int .i64)) := rfl
theorem te_170 : TE 170 = some ((.int .u32)) := rfl
theorem te_183 : TE 183 = some ((.int .u64)) := rfl
attribute [go_sem] te_3 te_4 te_5 te_9 te_22 te_23 te_25 te_27 te_31 te_40 te_43 te_52 te_59 te_62 te_72 te_73 te_79 te_87 te_91 te_130 te_134 te_138 te_144 te_146 te_163 te_170 te_183 mx_ rd_ sn_ sh_ sl_ bt_ rdm_134 sc_i64_1 sc_i64_7 sc_i64_8 sc_i64_16 sc_i64_32 sc_u64_1 sc_u64_7 sc_u64_8 sc_u64_16 sc_u64_32 sc_u8_1 sc_u8_7 wr_8 wr_u thenK_n w_1 thenK_r thenK_e inBlk_n inBlk_r inBlk_e loopK_n loopK_r loopK_e tw_skip tw_ret tw_exit tw_reg tw_regd tw_seq tw_block cnd_t cnd_f tw_cond rgn_nil rgn_cons grd_n gr_t gr_f grd_s kk_0 kk_1 kkz_0 kkz_1 stp_call stp_move stp_assign stp_pick stp_bin stp_un stp_conv stp_load stp_idxA stp_fldA stp_fld stp_idx stp_make stp_alloc stp_ext stp_nilC stp_store stp_append stp_copy stp_sliced stp_slice stp_slice3 fEv_sl stp_build stp_buildd stp_bldS stp_bldSd stp_box stp_boxd ev_sl ev_sl3 dOk_n dOk_s res_op op_t op_c cst_i cst_b cst_s cst_n ar_ro ar_nil ar_own ar_ptr ar_cel ar_pair g_mk o_mk put_mk put_no new_mk del_mk set_mk trim_mk news_0 news_1 upd_s look_nil look_s fzo_nil fzo_cons fz1_own fz1_ro fz1_nil fz1_cel fz1_ptr fz1_bot frz_mk frzO_s aConv_r aConv_o TV.ofT_self List.map_cons List.map_nil Option.bind_some Option.bind_none Option.isSome_some Option.isSome_none List.length_cons List.length_nil List.size_toArray List.getElem?_toArray List.getElem?_cons_zero List.getElem?_cons_succ Option.toArray_some Option.toArray_none reduceIte ite_true ite_false true_and and_true false_and and_false and_self eq_self Nat.reduceAdd Nat.reduceMul Nat.reduceEqDiff Nat.reduceLT Nat.reduceDiv Bool.false_eq_true Bool.true_eq_false false_or true_or or_true or_false List.getElem_toArray List.getElem_cons_zero List.getElem_cons_succ Nat.zero_add Nat.add_zero List.append_nil List.nil_append List.cons_append Array.toList_append List.toList_toArray stp_len1 stp_max2 stp_min2 fzs_nil fzs_keep fzs_row fzs_own fzs_box fzs_ibx FS.canon CA.fs List.contains_nil List.contains_cons Option.isNone_none Option.isNone_some entry wr_64 decide_eq_true_eq nb_ ite_not nf_ Bool.not_true Bool.not_false List.length_set ne_eq Bool.false_and Bool.true_and Bool.and_true Bool.and_false h_mk frzO_n frzO_m frzO_i fzs_heap fzq_own fzq_ro fzq_nil fzq_cel fzq_ptr fzq_vw fzq_bot fzq_tnil fz1_vw fz1_one ar_vw ar_one op_f cleV_f cleI_i calK stp_callv stp_calli stp_mup fEv_bld fBlS_0 fBlS_1 fBlS_2 fB1_ow fB1_of fB1_ro fB1_n fB1_c fB1_v one1_0 one1_2 one1_ow one1_of one1_ro one1_n one1_c one1_v fAp_n fAp_o fAp_i fApG_1 fApG_r fApG_n fApG_o fApG_v fSt_r fSt_i aLoad_c aLoad_r aLoad_i aLoad_p aIdxA_r aIdxA_i aIdxA_o aIdxA_v aLen_r aLen_i aLen_m aLen_o aLen_v aLen_s aSli_r aSli_f aSli_t aSli_v aLook_0 aLook_1 stp_mkMap0 stp_mkMap1 stp_look stp_fn stp_fnd stp_ifc stp_ifcd aFn List.take_succ_cons List.take_zero List.drop_succ_cons List.drop_zero Nat.reduceMod adopt_mk adO_s row_int row_bool row_str row_un row_sl row_pr row_rf row_fn row_ifc nid_int nid_bool nid_str nid_sl nid_pr nid_mp flat_sl flat_rf flat_fn flat_ifc flat_mp flat_int flat_bool flat_str flat_un flat_pr okH_int okH_bool okH_str okH_sl okH_pr okH_mp okH_id okH_rf hH_nil hH_k hH_r hH_o hH_b hH_i hH_h key_own key_ptr key_vw key_one key_ro key_cel key_nil key_bot oddF_f oddF_t aBin_i aBin_se aBin_sn bin_add bin_sub bin_mul bin_quo bin_rem bin_eql bin_neq bin_lss bin_leq bin_gtr bin_geq bin_and bin_or bin_xor bin_andNot bin_shl bin_shr aUn_i aUn_b aMax_i aMin_i mkS_s aMake_i tySl_s tyAl_s tyAl_m elT_i elT_b elT_t elT_s elT_p elT_m elR_i elR_b elR_t elR_s elR_p elR_m tyMp_s tyPr_s tyIn_s tySm_s aPick_b aSli3_r aSli3_o roSl_0 roSl_l roSl_h roSl_b roSl3_2 roSl3_3 vwSl_0 vwSl_l vwSl_h vwSl_b aFldA_c aFldA_r offK_s offK_m aFldA_p aFld_r aIdx_s aAlloc_0 aBox_1 lst_0 lst_c bldK_s bldK_n aBldS_d bldQ_s bldQ_m bld_0 bld_c aBld_d extK_s aExt_1 pn_0 pn_s aNilC_p aNilC_c aNilC_r aNilC_f aIfc_1 aMap_a aMap_b aConv_k aLen_z shd_ro shd_nil shd_own shd_vw shd_one shd_cel shd_ptr rdc_ro rdc_nil rdc_own rdc_vw rdc_one tvA_ro tvA_own tvA_vw tvA_one tvA_cel tvA_ptr tvs_0 tvs_c rd1_nil rd1_ro rd1_cel rd1_own rd1_vw rd1_one rd1_ptr rds_0 rds_c noO_s noO_n noOwn_0 noOwn_c flatR_0 flatR_t flatR_f obsOf_0 obsOf_t obsOf_f pvsOf_0 pvsOf_t pvsOf_f tupOf_0 tupOf_c pvOf_0 pvOf_1 pvOf_2 retK_r retK_n usK_s usK_n outQ_s outP_n outP_o outs_0 outs_f outs_c outs_o fSto_p fApp_n fApp_o fCopy_o fMUp_o fCut_i fSli3_o fSli3_r fSli3_n fSli3_v fSli_00 fSli_0h fSli_l fSli_f fSli_r fSli_n fSli_v fStI_o fStI_n fStI_r fApI_1 off_n off_0 off_s pj_0 pj_s st_n st_0 st_s sz_int sz_bool sz_str sz_sl sz_pr sz_un sz_rf sz_fn sz_ifc zv_int zv_bool zv_str zv_sl zv_pr zv_un by_8 by_u8 by_4 by_u4 by_1 by_u1 by_bool by_str by_sl by_pr by_un tv_pr tv_un tup_0 tup_c roQ_s roQ_n roOf_o roOf_r roOf_c roOf_n roOf_b roOf_p roOf_v rowOf_n rowOf_r rowOf_b cn1_keep cn1_row cnQ_s cnO_n cnO_o cnO_b cn1_own cnB_p cnB_b cn1_box cn1_heap ibxOf_s ibq_1 odn_0 odn_c od_e cnJ_s cnI_s cnK_p cnK_b cn1_ibx cnl_0 cnl_c sel_t sel_f Nat.reduceBEq pj_i pj_b pj_st pj_sl pj_pr pj_un pj_rf pj_fn pj_if gd_0 ls_0 Option.map_some cng_r cng_n ar_tnil ar_bot fz1_tnil roOf_t cnO_t cnB_t aConv_v List.take_length List.length_map fzq_one roQ1_s roOf_1 Nat.zero_le Nat.reduceLeDiff rfV_f rfr_0 rfr_c puts_0 puts_c asgK_n rndK_n rndK_r rndK_e Bool.or_false Bool.false_or Bool.or_true Bool.true_or alC_b alC_t stp_allocd fAlI_s FS.marks lap_c lap_0 row_ar nid_ar flat_ar okH_ar elT_a elR_a off_a pj_a pj_ar st_a sz_ar zv_ar by_ar aIdxA_p arK_0 arK_1 arK_2 arQ_
theorem go_ {A B : Prop} (b : B) (h : A = B := by ((try simp (maxSteps := 1000000) only [go_sem]); rfl)) : A := h ▸ b
theorem fg_ {f : FS} {k : KF} {B : Prop} (b : B) (h : k f = B := by ((try simp (maxSteps := 1000000) only [go_sem]); rfl)) : fzl f k := fl_ (h ▸ b)
theorem pg_ {b : Bool} {x y p B : Prop} (k : B) (e : (b = true) = p := by (try simp only [decide_eq_true_eq, nb_, nf_, Bool.and_eq_true, Bool.or_eq_true, beq_iff_eq, bne_iff_ne, ne_eq]); rfl) (h : p := by first | assumption | exact trivial | omega) (g : x = B := by ((try simp (maxSteps := 1000000) only [go_sem]); rfl)) : cnd (.ro .bool b) x y := cp_ (g ▸ k) e h
theorem qg_ {b : Bool} {x y p B : Prop} (k : B) (e : (b = true) = p := by (try simp only [decide_eq_true_eq, nb_, nf_, Bool.and_eq_true, Bool.or_eq_true, beq_iff_eq, bne_iff_ne, ne_eq]); rfl) (h : ¬ p := by first | assumption | exact not_false | exact not_not_intro (by assumption) | omega) (g : y = B := by ((try simp (maxSteps := 1000000) only [go_sem]); rfl)) : cnd (.ro .bool b) x y := cq_ (g ▸ k) e h
theorem fgI {f : FS} {k : KF} {B : Prop} (h : k f = B := by ((try simp (maxSteps := 1000000) only [go_sem]); rfl)) : B → fzl f k := fun u => fl_ (h ▸ u)
theorem pgI {b : Bool} {x y p B : Prop} (e : (b = true) = p := by (try simp only [decide_eq_true_eq, nb_, nf_, Bool.and_eq_true, Bool.or_eq_true, beq_iff_eq, bne_iff_ne, ne_eq]); rfl) (h : p := by first | assumption | exact trivial | omega) (g : x = B := by ((try simp (maxSteps := 1000000) only [go_sem]); rfl)) : B → cnd (.ro .bool b) x y := fun u => cp_ (g ▸ u) e h
theorem qgI {b : Bool} {x y p B : Prop} (e : (b = true) = p := by (try simp only [decide_eq_true_eq, nb_, nf_, Bool.and_eq_true, Bool.or_eq_true, beq_iff_eq, bne_iff_ne, ne_eq]); rfl) (h : ¬ p := by first | assumption | exact not_false | exact not_not_intro (by assumption) | omega) (g : y = B := by ((try simp (maxSteps := 1000000) only [go_sem]); rfl)) : B → cnd (.ro .bool b) x y := fun u => cq_ (g ▸ u) e h
theorem anI {a b : Prop} (h : a := by first | assumption | exact trivial | omega | kernel_rfl | (simp <;> fail)) : b → a ∧ b := fun x => ⟨h, x⟩
theorem ipI {c a b : Prop} [Decidable c] (h : c := by assumption) : a → ite c a b := fun x => by rw [if_pos h]; exact x
theorem inI {c a b : Prop} [Decidable c] (h : ¬ c := by assumption) : b → ite c a b := fun x => by rw [if_neg h]; exact x
theorem g6_ {A B : Prop} (b : B) (h : B → A := by first | exact fgI | exact pgI | exact qgI | exact anI | exact ipI | exact inI) : A := h b
theorem hs_ {A B : Prop} (a : A) (h : A = B := by (try simp only [wi_, Option.bind_some, beq_iff_eq, bne_iff_ne, ne_eq, ite_not, nb_, nf_, decide_eq_true_eq, reduceIte, Bool.false_eq_true, eq_self, ite_true, ite_false]); rfl) : B := h ▸ a
theorem con_ {ps : List Nat} {res : List RS} {fn : FuncId} {F : Func} {N : Nat} {c : Code} {al : List TV} {rs : List RV} (h : tw Tryz.prog TE N ps c (2 * N) ⟨lkp .bot (entry 0 al), fun _ => none, 0⟩ (retK TE res rs)) (hf : Tryz.prog.funcs[fn]? = some F) (hN : F.ntmps = N) (hb : F.body = some c := by rfl) (hr : F.results = (res.map resv).toArray := by rfl) (hname : (F.name == "runtime.NumGoroutine") = false := by kernel_rfl) (hn : al.length ≤ N := by simp) : Con Tryz.prog fn al rs :=
 con_of TE_ok (by kernel_rfl) hf hname hb hN hr hn h
theorem conm_ {ps : List Nat} {res : List RS} (ms : List Nat) {fn : FuncId} {F : Func} {N : Nat} {c : Code} {al : List TV} {rs : List RV} (h : tw Tryz.prog TE N ps c (2 * N) (FS.marks N ⟨lkp .bot (entry 0 al), fun _ => none, 0⟩ ms) (retK TE res rs)) (hf : Tryz.prog.funcs[fn]? = some F) (hN : F.ntmps = N) (hb : F.body = some c := by rfl) (hr : F.results = (res.map resv).toArray := by rfl) (hname : (F.name == "runtime.NumGoroutine") = false := by kernel_rfl) (hn : al.length ≤ N := by simp) : Con Tryz.prog fn al rs :=
 con_ms TE_ok (by kernel_rfl) hf hname hb hN hr hn h
end Go.Proofs.YtillaipaanancaaGreat.Q
end
section
set_option linter.unusedVariables false
set_option maxRecDepth 100000
set_option maxHeartbeats 8000000
namespace Go.Proofs.YtillaipaanancaaGreat.Q
open Go.RowKit Go.TT Go.Proofs.YtillaipaanancaaGreatW.PrintWords
theorem gFElement_con {k : Nat} {a0_0 : Int} {l0_1 : List Int} {a1 : Int} {r : List Int} (h : gFElement.f k a0_0 l0_1 a1 = some r) : Con Tryz.prog 113 [⟨.pr (.pr (.int .i64) (.pr (.sl 3 (.int .i64)) (.un))) (.un), ((a0_0, (l0_1, ())), ())⟩, ⟨.int .i64, a1⟩] [(false, ⟨.sl 3 (.int .i64), r⟩)] := by
 refine con_ (ps := [0, 1, 2, 4, 5, 7]) (res := [(4, none)]) ?_ Tryz.func113 Tryz.ntmps113
 refine go_ ?_
 unfold gFElement.f at h
 replace h := hs_ h
 repeat' (first | split at h | fail)
 all_goals first
  | (cases h <;> (repeat (first | refine g6_ ?_)) <;> (first | done | rfl | trivial | (simp; done) | (exfalso; omega)))
  | (exfalso; omega)
  | (
    (with_reducible have h : gFElement.l0 _ _ _ _ _ = some r := h)
    repeat (first | refine g6_ ?_)
    refine lp [(1, .keep), (5, .own 3 (.int .i64)), (2, .box)] fun X0 hX0 => ?_
    refine go_ ?_
    have key : ∀ k x1 x5 x102000 x102001, gFElement.l0 k x1 x5 x102000 x102001 = some r → X0 ⟨lkp .bot [(2, .ptr 4 0 []), (5, .own 10), (1, .ro (.int .i64) x1)], lkp none [(4, some ⟨87, .pr (.pr (.int .i64) (.pr (.sl 3 (.int .i64)) (.un))) (.un), [((x102000, (x102001, ())), ())], true⟩), (10, some ⟨3, .int .i64, x5, true⟩)], 0⟩ := by
     refine sind fun k ih0 x1 x5 x102000 x102001 h => hX0 _ ?_
     clear hX0
     rcases k with _ | k
     ·cases h
     unfold gFElement.l0 at h
     replace h := hs_ h
     refine go_ ?_
     repeat' (first | split at h | fail)
     all_goals (first | ((repeat (first | refine g6_ ?_)); exact ih0 _ (by omega) _ _ _ _ h) | (cases h <;> (repeat (first | refine g6_ ?_)) <;> (first | done | rfl | trivial | (simp; done) | (exfalso; omega))) | (exfalso; omega))
    exact key _ _ _ _ _ h)
def idxB (p : Int → Bool) : List Int → Nat → Int
 | [], _ => -1
 | x :: xs, j => if p x = true then (j : Int) else idxB p xs (j + 1)
theorem idx_any {p : Int → Bool} : ∀ (l : List Int) (j : Nat), decide (idxB p l j ≥ 0) = l.any p
 | [], j => rfl
 | x :: xs, j => by
  unfold idxB
  by_cases h : p x = true
  ·rw [if_pos h, List.any_cons, h, Bool.true_or]; exact decide_eq_true (by omega)
  ·rw [if_neg h, List.any_cons, idx_any xs, Bool.eq_false_iff.2 h, Bool.false_or]
theorem wj_ {l : List Int} {j : Nat} (hl : l.length ≤ 4611686018427387904) (hj : j < l.length) : wrap64 ((j : Int) + 1) = ((j + 1 : Nat) : Int) := by
 unfold wrap64; omega
theorem index143_con {g : FuncId} {a c : Ty} {z : (Ty.fn (.func g) a c).den} {l : List Int} {p : Int → Bool} (hl : l.length ≤ 4611686018427387904) (hp : ∀ x, x ∈ l → Con Tryz.prog g (a.tvs z.1 ++ ([⟨.int .i64, x⟩] ++ c.tvs z.2)) [(false, ⟨.bool, p x⟩)]) :
  Con Tryz.prog 192 [⟨.sl 3 (.int .i64), l⟩, ⟨.fn (.func g) a c, z⟩] [(false, ⟨.int .i64, idxB p l 0⟩)] := by
 refine con_ (ps := [0, 1, 4, 5, 7, 8, 9, 16]) (res := [(4, none)]) ?_ Tryz.func192 Tryz.ntmps192
 refine go_ ?_
 refine lp [(0, .row 3 (.int .i64)), (1, .keep), (7, .keep), (8, .keep)] fun X0 hX0 => ?_
 refine go_ ?_
 have key : ∀ (n j : Nat), l.length = j + n → idxB p (l.drop j) j = idxB p l 0 → X0 ⟨lkp .bot [(8, .ro (.int .i64) (j : Int)), (7, .ro (.int .i64) (l.length : Int)), (1, .ro (.fn (.func g) a c) z), (0, .ro (.sl 3 (.int .i64)) l)], lkp none [], 0⟩ := by
  intro n
  induction n with
  | zero =>
   intro j h1 h2
   refine hX0 _ ?_
   clear hX0
   refine go_ ?_
   refine cq_ ?_
   refine go_ ?_
   have h3 : -1 = idxB p l 0 := by rw [← h2, List.drop_of_length_le (by omega)]; rfl
   exact h3
  | succ n ih =>
   intro j h1 h2
   refine hX0 _ ?_
   clear hX0
   refine go_ ?_
   refine cp_ ?_
   refine go_ ?_
   have hj : j < l.length := by omega
   have hr : rd l (j : Int) = l[j] := by unfold rd; simp [hj]
   refine an_ ?_
   refine an_ ?_
   refine .inl ⟨_, hp _ (by rw [hr]; exact List.getElem_mem hj), ?_⟩
   refine go_ ?_
   try refine an_ ?_
   rw [List.drop_eq_getElem_cons hj, idxB, ← hr] at h2
   by_cases hq : p (rd l (j : Int)) = true
   ·rw [if_pos hq] at h2
    refine cp_ ?_
    refine go_ ?_
    exact h2
   ·rw [if_neg hq] at h2
    refine cq_ ?_
    refine go_ ?_
    rw [wj_ hl hj]
    exact ih (j + 1) (by omega) h2
 exact key l.length 0 (by omega) rfl
theorem index134_con {g : FuncId} {a c : Ty} {z : (Ty.fn (.func g) a c).den} {l : List Int} {p : Int → Bool} (hl : l.length ≤ 4611686018427387904) (hp : ∀ x, x ∈ l → Con Tryz.prog g (a.tvs z.1 ++ ([⟨.int .i64, x⟩] ++ c.tvs z.2)) [(false, ⟨.bool, p x⟩)]) :
  Con Tryz.prog 173 [⟨.sl 3 (.int .i64), l⟩, ⟨.fn (.func g) a c, z⟩] [(false, ⟨.int .i64, idxB p l 0⟩)] := by
 refine con_ (ps := [0, 1, 4, 5, 7, 8, 9, 16]) (res := [(4, none)]) ?_ Tryz.func173 Tryz.ntmps173
 refine go_ ?_
 refine lp [(0, .row 3 (.int .i64)), (1, .keep), (7, .keep), (8, .keep)] fun X0 hX0 => ?_
 refine go_ ?_
 have key : ∀ (n j : Nat), l.length = j + n → idxB p (l.drop j) j = idxB p l 0 → X0 ⟨lkp .bot [(8, .ro (.int .i64) (j : Int)), (7, .ro (.int .i64) (l.length : Int)), (1, .ro (.fn (.func g) a c) z), (0, .ro (.sl 3 (.int .i64)) l)], lkp none [], 0⟩ := by
  intro n
  induction n with
  | zero =>
   intro j h1 h2
   refine hX0 _ ?_
   clear hX0
   refine go_ ?_
   refine cq_ ?_
   refine go_ ?_
   have h3 : -1 = idxB p l 0 := by rw [← h2, List.drop_of_length_le (by omega)]; rfl
   exact h3
  | succ n ih =>
   intro j h1 h2
   refine hX0 _ ?_
   clear hX0
   refine go_ ?_
   refine cp_ ?_
   refine go_ ?_
   have hj : j < l.length := by omega
   have hr : rd l (j : Int) = l[j] := by unfold rd; simp [hj]
   refine an_ ?_
   refine an_ ?_
   refine .inl ⟨_, hp _ (by rw [hr]; exact List.getElem_mem hj), ?_⟩
   refine go_ ?_
   try refine an_ ?_
   rw [List.drop_eq_getElem_cons hj, idxB, ← hr] at h2
   by_cases hq : p (rd l (j : Int)) = true
   ·rw [if_pos hq] at h2
    refine cp_ ?_
    refine go_ ?_
    exact h2
   ·rw [if_neg hq] at h2
    refine cq_ ?_
    refine go_ ?_
    rw [wj_ hl hj]
    exact ih (j + 1) (by omega) h2
 exact key l.length 0 (by omega) rfl
theorem contains137_con {g : FuncId} {a c : Ty} {z : (Ty.fn (.func g) a c).den} {l : List Int} {p : Int → Bool} (hl : l.length ≤ 4611686018427387904) (hp : ∀ x, x ∈ l → Con Tryz.prog g (a.tvs z.1 ++ ([⟨.int .i64, x⟩] ++ c.tvs z.2)) [(false, ⟨.bool, p x⟩)]) :
  Con Tryz.prog 174 [⟨.sl 3 (.int .i64), l⟩, ⟨.fn (.func g) a c, z⟩] [(false, ⟨.bool, l.any p⟩)] := by
 refine con_ (ps := [0, 1, 4]) (res := [(4, none)]) ?_ Tryz.func174 Tryz.ntmps174
 refine go_ ?_
 (repeat (first | refine g6_ ?_))
 refine .inl ⟨_, index143_con hl hp, ?_⟩
 refine go_ ?_
 try refine an_ ?_
 exact idx_any l 0
theorem contains108_con {g : FuncId} {a c : Ty} {z : (Ty.fn (.func g) a c).den} {l : List Int} {p : Int → Bool} (hl : l.length ≤ 4611686018427387904) (hp : ∀ x, x ∈ l → Con Tryz.prog g (a.tvs z.1 ++ ([⟨.int .i64, x⟩] ++ c.tvs z.2)) [(false, ⟨.bool, p x⟩)]) :
  Con Tryz.prog 139 [⟨.sl 3 (.int .i64), l⟩, ⟨.fn (.func g) a c, z⟩] [(false, ⟨.bool, l.any p⟩)] := by
 refine con_ (ps := [0, 1, 4]) (res := [(4, none)]) ?_ Tryz.func139 Tryz.ntmps139
 refine go_ ?_
 (repeat (first | refine g6_ ?_))
 refine .inl ⟨_, index134_con hl hp, ?_⟩
 refine go_ ?_
 try refine an_ ?_
 exact idx_any l 0
theorem bad1_con {x : Int} : Con Tryz.prog 175 [⟨.int .i64, x⟩] [(false, ⟨.bool, badP x⟩)] := by
 refine con_ (ps := [0, 2]) (res := [(2, none)]) ?_ Tryz.func175 Tryz.ntmps175
 refine go_ ?_
 have e : badP x = (decide (x < 1) || decide (2147483647 < x)) := rfl
 by_cases h : x < 1
 ·rw [decide_eq_true h, Bool.true_or] at e
  (repeat (first | refine g6_ ?_))
  all_goals (first | exact e.symm | (simp [e, h]; done))
 ·rw [decide_eq_false h, Bool.false_or] at e
  (repeat (first | refine g6_ ?_))
  all_goals (first | exact e.symm | (simp [e, h]; done))
theorem rs_bad_con {a0 : List Int} {r : Bool} (h : rs_bad.f a0 = some r) (hl : a0.length ≤ 4611686018427387904 := by first | (simp; done) | omega) : Con Tryz.prog 142 [⟨.sl 3 (.int .i64), a0⟩] [(false, ⟨.bool, r⟩)] := by
 refine con_ (ps := [0, 2]) (res := [(2, none)]) ?_ Tryz.func142 Tryz.ntmps142
 refine go_ ?_
 (repeat (first | refine g6_ ?_))
 refine .inl ⟨_, contains137_con hl (fun x _ => bad1_con), ?_⟩
 refine go_ ?_
 try refine an_ ?_
 injection h
end Go.Proofs.YtillaipaanancaaGreat.Q
end
section
set_option linter.unusedVariables false
namespace Go.Proofs.YtillaipaanancaaGreat.Q
open Go.RowKit Go.TT Go.Proofs.YtillaipaanancaaGreatW.PrintWords
theorem rs_factor_con {k : Nat} {a0 : Int} {r : List S134} (h : rs_factor.f k a0 = some r) : Con Tryz.prog 143 [⟨.int .i64, a0⟩] [(false, ⟨.sl 134 (.pr (.int .i64) (.pr (.int .i64) (.un))), (List.map (fun s : S134 => (s.f0, (s.f1, ()))) r)⟩)] := by
 refine ⟨⟨_, Tryz.func143, by kernel_rfl, by kernel_rfl⟩, fun w S vals hS hA => ?_⟩
 obtain ⟨v, rfl⟩ : ∃ v, vals = [v] := by
  match vals, hA with
  | [v], _ => exact ⟨v, rfl⟩
  | [], h => exact h.elim
  | _ :: _ :: _, h => exact h.2.elim
 have hv : v = .int .i64 a0 := Vs_int.1 hA.1
 subst hv
 refine (rs_factor.calls k a0 r w h).mono ?_
 rintro e w' ⟨v0, rfl, ⟨_, inner, ho, hr⟩, hb⟩
 obtain ⟨A, c, e1, e2, e3⟩ := own_row ho
 refine ⟨[v0], rfl, hb, fun b => S b ∨ (v0.ownBlock = some b), fun b hb' hs => ?_, fun b hs => ?_, ?_, trivial⟩
 ·rcases hs with hs | hs
  ·exact hs
  ·have := own_base ho b hs; omega
 ·rcases hs with hs | hs
  ·exact Nat.lt_of_lt_of_le (hS b hs) hb.size
  ·exact own_lt ho b hs
 ·have hfl : ∀ (l : List S134) (cs : List Value), cs.length = l.length * 2 → (∀ (j : Nat) (p : S134), l[j]? = some p → (cs.drop (j * 2)).take 2 = [.int .i64 p.f0, .int .i64 p.f1]) →
    Fl (Cs w' (fun b => S b ∨ v0.ownBlock = some b) (.pr (.int .i64) (.pr (.int .i64) (.un)))) (l.map fun s => (s.f0, (s.f1, ()))) cs := by
   intro l
   induction l with
   | nil => intro cs hl _; exact List.eq_nil_of_length_eq_zero (by simpa using hl)
   | cons x l ih =>
    intro cs hl hc
    have h0 := hc 0 x rfl
    rw [Nat.zero_mul, List.drop_zero] at h0
    refine ⟨[.int .i64 x.f0, .int .i64 x.f1], cs.drop 2, ?_, ⟨[_], _, rfl, rfl, ⟨[_], _, rfl, rfl, rfl⟩⟩, ih _ ?_ ?_⟩
    ·rw [← h0, List.take_append_drop]
    ·rw [List.length_drop, hl, List.length_cons]; omega
    ·intro j p hj
     have := hc (j + 1) p (by simpa using hj)
     rw [List.drop_drop]
     rw [show 2 + j * 2 = (j + 1) * 2 by omega]; exact this
  refine Vs_sl.2 ⟨A, c, inner, by rw [e1, List.length_map], by rw [List.length_map]; exact e2, hfl r inner hr.1 (fun j p hj => k134_openM (hr.2 j p hj)), ?_⟩
  rcases e3 with ⟨_, q, _⟩ | ⟨g, rfl, q⟩
  ·exact .inl (by rw [List.eq_nil_of_length_eq_zero q]; rfl)
  ·exact .inr ⟨_, rfl, .inr (by rw [e1]; rfl), q⟩
end Go.Proofs.YtillaipaanancaaGreat.Q
end
section
set_option linter.unusedVariables false
set_option maxRecDepth 100000
set_option maxHeartbeats 8000000
namespace Go.Proofs.YtillaipaanancaaGreat.Q
open Go.RowKit Go.TT Go.Proofs.YtillaipaanancaaGreatW.PrintWords
theorem rs_prime_con {k : Nat} {a0 : Int} {r : Bool} (h : rs_prime.f k a0 = some r) : Con Tryz.prog 191 [⟨.int .i64, a0⟩] [(false, ⟨.bool, r⟩)] := by
 refine con_ (ps := [0, 2, 3]) (res := [(2, none)]) ?_ Tryz.func191 Tryz.ntmps191
 refine go_ ?_
 unfold rs_prime.f at h
 replace h := hs_ h
 repeat' (first | split at h | (refine bnf h fun t e h => ?_; (repeat (first | refine g6_ ?_)); refine .inl ⟨_, (by first | exact rs_factor_con e), ?_⟩; refine go_ ?_) | (refine bnf h fun t e h => ?_; (repeat (first | refine g6_ ?_ | (refine .inl ⟨_, (by first | exact rs_factor_con ‹_›), ?_⟩; refine go_ ?_))); refine .inl ⟨_, (by first | exact rs_factor_con e), ?_⟩; refine go_ ?_) | fail)
 all_goals (first | (cases h <;> (repeat (first | refine g6_ ?_ | (refine .inl ⟨_, (by first | exact rs_factor_con ‹_›), ?_⟩; refine go_ ?_))) <;> (first | done | rfl | trivial | (simp; done) | (exfalso; omega))) | (exfalso; omega))
theorem rs_IsPrime_con {k : Nat} {a0 : Int} {r1 : Bool} {r2 : Int} (h : rs_IsPrime.f k a0 = some (r1, r2)) : Con Tryz.prog 172 [⟨.int .i64, a0⟩] [(false, ⟨.bool, r1⟩), (false, ⟨.int .i64, r2⟩)] := by
 refine con_ (ps := [0, 2, 3, 6]) (res := [(2, none), (3, none)]) ?_ Tryz.func172 Tryz.ntmps172
 refine go_ ?_
 unfold rs_IsPrime.f at h
 replace h := hs_ h
 repeat' (first | split at h | (refine bnf h fun t e h => ?_; (repeat (first | refine g6_ ?_)); refine .inl ⟨_, (by first | exact rs_bad_con e | exact rs_prime_con e), ?_⟩; refine go_ ?_) | (refine bnf h fun t e h => ?_; (repeat (first | refine g6_ ?_ | (refine .inl ⟨_, (by first | exact rs_bad_con ‹_› | exact rs_prime_con ‹_›), ?_⟩; refine go_ ?_))); refine .inl ⟨_, (by first | exact rs_bad_con e | exact rs_prime_con e), ?_⟩; refine go_ ?_) | fail)
 all_goals (first | (cases h <;> (repeat (first | refine g6_ ?_ | (refine .inl ⟨_, (by first | exact rs_bad_con ‹_› | exact rs_prime_con ‹_›), ?_⟩; refine go_ ?_))) <;> (first | done | rfl | trivial | (simp; done) | (exfalso; omega))) | (exfalso; omega))
theorem pm_prime_con {k : Nat} {a0 : Int} {r : Int} (h : pm_prime.f k a0 = some r) : Con Tryz.prog 138 [⟨.int .i64, a0⟩] [(false, ⟨.int .i64, r⟩)] := by
 refine con_ (ps := [0, 2, 3, 4, 10, 21]) (res := [(2, none)]) ?_ Tryz.func138 Tryz.ntmps138
 refine go_ ?_
 unfold pm_prime.f at h
 replace h := hs_ h
 repeat' (first | split at h | (refine bnf h fun t e h => ?_; (repeat (first | refine g6_ ?_)); refine .inl ⟨_, (by first | exact rs_IsPrime_con e), ?_⟩; refine go_ ?_) | (refine bnf h fun t e h => ?_; (repeat (first | refine g6_ ?_ | (refine .inl ⟨_, (by first | exact rs_IsPrime_con ‹_›), ?_⟩; refine go_ ?_))); refine .inl ⟨_, (by first | exact rs_IsPrime_con e), ?_⟩; refine go_ ?_) | (rcases k with _ | k; (· cases h); unfold pm_prime.j0 at h; replace h := hs_ h) | fail)
 all_goals (first | (cases h <;> (repeat (first | refine g6_ ?_ | (refine .inl ⟨_, (by first | exact rs_IsPrime_con ‹_›), ?_⟩; refine go_ ?_))) <;> (first | done | rfl | trivial | (simp; done) | (exfalso; omega))) | (exfalso; omega))
theorem badC_con {p x : Int} : Con Tryz.prog 140 [⟨.int .i64, x⟩, ⟨.rf (.int .i64), p⟩] [(false, ⟨.bool, badC p x⟩)] := by
 refine con_ (ps := [0, 1, 3]) (res := [(3, none)]) ?_ Tryz.func140 Tryz.ntmps140
 refine go_ ?_
 have e : badC p x = (decide (x < 0) || decide (p ≤ x)) := rfl
 by_cases h : x < 0
 ·rw [decide_eq_true h, Bool.true_or] at e
  (repeat (first | refine g6_ ?_))
  all_goals (first | exact e.symm | (simp [e, h]; done))
 ·rw [decide_eq_false h, Bool.false_or] at e
  (repeat (first | refine g6_ ?_))
  all_goals (first | exact e.symm | (simp [e, h]; done))
theorem pm_Check_con {k : Nat} {a0 : Int} {l1 : List Int} {r : Int} (h : pm_Check.f k a0 l1 = some r) : Con Tryz.prog 103 [⟨.int .i64, a0⟩, ⟨.sl 3 (.int .i64), l1⟩] [(false, ⟨.int .i64, r⟩)] := by
 refine con_ (ps := [0, 1, 2, 4, 5, 9, 13, 30]) (res := [(4, none)]) ?_ Tryz.func103 Tryz.ntmps103
 refine go_ ?_
 unfold pm_Check.f at h
 refine bnf h fun t e h => ?_
 (repeat (first | refine g6_ ?_))
 refine .inl ⟨_, pm_prime_con e, ?_⟩
 refine go_ ?_
 by_cases ht : t = 0
 ·rw [if_pos ht] at h
  injection h with h
  unfold pm_Check.g at h
  by_cases h1 : l1.length > 65
  ·rw [if_pos h1] at h
   (repeat (first | refine g6_ ?_))
   all_goals (first | exact h | exact h.symm | (simp [h]; done))
  ·rw [if_neg h1] at h
   (repeat (first | refine g6_ ?_))
   refine .inl ⟨_, contains108_con (by omega) (fun x _ => badC_con), ?_⟩
   refine go_ ?_
   by_cases h2 : l1.any (badC a0) = true
   ·rw [if_pos h2] at h
    (repeat (first | refine g6_ ?_))
    all_goals (first | exact h | exact h.symm | (simp [h]; done))
   ·rw [if_neg h2] at h
    by_cases h3 : (l1.length : Int) > 0
    ·rw [if_pos h3] at h
     have hw : wrap64 ((l1.length : Int) - 1) = (l1.length : Int) - 1 := by unfold wrap64; omega
     have hw1 : 0 ≤ wrap64 ((l1.length : Int) - 1) := by omega
     have hw2 : wrap64 ((l1.length : Int) - 1) < (l1.length : Int) := by omega
     by_cases h4 : rd l1 (wrap64 ((l1.length : Int) - 1)) = 0
     ·rw [if_pos h4] at h
      (repeat (first | refine g6_ ?_))
      all_goals (first | exact h | exact h.symm | (simp [h]; done))
     ·rw [if_neg h4] at h
      (repeat (first | refine g6_ ?_))
      all_goals (first | exact h | exact h.symm | (simp [h]; done))
    ·rw [if_neg h3] at h
     (repeat (first | refine g6_ ?_))
     all_goals (first | exact h | exact h.symm | (simp [h]; done))
 ·rw [if_neg ht] at h
  injection h with h
  (repeat (first | refine g6_ ?_))
  all_goals (first | exact h | exact h.symm | (simp [h]; done))
theorem gFDegree_con {a0_0 : Int} {l0_1 : List Int} {r : Int} (h : gFDegree.f a0_0 l0_1 = some r) : Con Tryz.prog 141 [⟨.pr (.pr (.int .i64) (.pr (.sl 3 (.int .i64)) (.un))) (.un), ((a0_0, (l0_1, ())), ())⟩] [(false, ⟨.int .i64, r⟩)] := by
 refine con_ (ps := [0, 1, 2]) (res := [(2, none)]) ?_ Tryz.func141 Tryz.ntmps141
 refine go_ ?_
 unfold gFDegree.f at h
 replace h := hs_ h
 repeat' (first | split at h | fail)
 all_goals (first | (cases h <;> (repeat (first | refine g6_ ?_)) <;> (first | done | rfl | trivial | (simp; done) | (exfalso; omega))) | (exfalso; omega))
theorem gFSize_con {k : Nat} {a0_0 : Int} {l0_1 : List Int} {r1 : Int} {r2 : Bool} (h : gFSize.f k a0_0 l0_1 = some (r1, r2)) : Con Tryz.prog 104 [⟨.pr (.pr (.int .i64) (.pr (.sl 3 (.int .i64)) (.un))) (.un), ((a0_0, (l0_1, ())), ())⟩] [(false, ⟨.int .i64, r1⟩), (false, ⟨.bool, r2⟩)] := by
 refine con_ (ps := [0, 1, 2, 3, 4, 6, 7, 8, 15]) (res := [(2, none), (3, none)]) ?_ Tryz.func104 Tryz.ntmps104
 refine go_ ?_
 unfold gFSize.f at h
 replace h := hs_ h
 repeat' (first | split at h | (refine bnf h fun t e h => ?_; (repeat (first | refine g6_ ?_)); refine .inl ⟨_, (by first | exact gFDegree_con e), ?_⟩; refine go_ ?_) | (refine bnf h fun t e h => ?_; (repeat (first | refine g6_ ?_ | (refine .inl ⟨_, (by first | exact gFDegree_con ‹_›), ?_⟩; refine go_ ?_))); refine .inl ⟨_, (by first | exact gFDegree_con e), ?_⟩; refine go_ ?_) | fail)
 all_goals first
  | (cases h <;> (repeat (first | refine g6_ ?_ | (refine .inl ⟨_, (by first | exact gFDegree_con ‹_›), ?_⟩; refine go_ ?_))) <;> (first | done | rfl | trivial | (simp; done) | (exfalso; omega)))
  | (exfalso; omega)
  | (
    (with_reducible have h : gFSize.l0 _ _ _ _ _ _ = some (r1, r2) := h)
    repeat (first | refine g6_ ?_ | (refine .inl ⟨_, (by first | exact gFDegree_con ‹_›), ?_⟩; refine go_ ?_))
    refine lp [(4, .keep), (6, .keep), (7, .keep), (1, .box)] fun X0 hX0 => ?_
    refine go_ ?_
    have key : ∀ k x4 x6 x7 x102000 x102001, gFSize.l0 k x4 x6 x7 x102000 x102001 = some (r1, r2) → X0 ⟨lkp .bot [(1, .ptr 2 0 []), (7, .ro (.int .i64) x7), (6, .ro (.int .i64) x6), (4, .ro (.int .i64) x4)], lkp none [(2, some ⟨87, .pr (.pr (.int .i64) (.pr (.sl 3 (.int .i64)) (.un))) (.un), [((x102000, (x102001, ())), ())], true⟩)], 0⟩ := by
     refine sind fun k ih0 x4 x6 x7 x102000 x102001 h => hX0 _ ?_
     clear hX0
     rcases k with _ | k
     ·cases h
     unfold gFSize.l0 at h
     replace h := hs_ h
     refine go_ ?_
     repeat' (first | split at h | (refine bnf h fun t e h => ?_; (repeat (first | refine g6_ ?_)); refine .inl ⟨_, (by first | exact gFDegree_con e), ?_⟩; refine go_ ?_) | (refine bnf h fun t e h => ?_; (repeat (first | refine g6_ ?_ | (refine .inl ⟨_, (by first | exact gFDegree_con ‹_›), ?_⟩; refine go_ ?_))); refine .inl ⟨_, (by first | exact gFDegree_con e), ?_⟩; refine go_ ?_) | fail)
     all_goals (first | ((repeat (first | refine g6_ ?_ | (refine .inl ⟨_, (by first | exact gFDegree_con ‹_›), ?_⟩; refine go_ ?_))); exact ih0 _ (by omega) _ _ _ _ _ h) | (cases h <;> (repeat (first | refine g6_ ?_ | (refine .inl ⟨_, (by first | exact gFDegree_con ‹_›), ?_⟩; refine go_ ?_))) <;> (first | done | rfl | trivial | (simp; done) | (exfalso; omega))) | (exfalso; omega))
    exact key _ _ _ _ _ _ h)
theorem fp_Trim_con {k : Nat} {l0 : List Int} {r : List Int} (h : fp_Trim.f k l0 = some r) : Con Tryz.prog 123 [⟨.sl 3 (.int .i64), l0⟩] [(false, ⟨.sl 3 (.int .i64), r⟩)] := by
 refine con_ (ps := [0, 2, 3, 15]) (res := [(2, none)]) ?_ Tryz.func123 Tryz.ntmps123
 refine go_ ?_
 unfold fp_Trim.f at h
 replace h := hs_ h
 repeat' (first | split at h | fail)
 all_goals first
  | (cases h <;> (repeat (first | refine g6_ ?_)) <;> (first | done | rfl | trivial | (simp; done) | (exfalso; omega)))
  | (exfalso; omega)
  | (
    (with_reducible have h : fp_Trim.l0 _ _ _ = some r := h)
    repeat (first | refine g6_ ?_)
    refine lp [(0, .row 3 (.int .i64)), (3, .keep)] fun X0 hX0 => ?_
    refine go_ ?_
    have key : ∀ k x0 x3, fp_Trim.l0 k x0 x3 = some r → X0 ⟨lkp .bot [(3, .ro (.int .i64) x3), (0, .ro (.sl 3 (.int .i64)) x0)], lkp none [], 0⟩ := by
     refine sind fun k ih0 x0 x3 h => hX0 _ ?_
     clear hX0
     rcases k with _ | k
     ·cases h
     unfold fp_Trim.l0 at h
     replace h := hs_ h
     refine go_ ?_
     repeat' (first | split at h | fail)
     all_goals (first | ((repeat (first | refine g6_ ?_)); exact ih0 _ (by omega) _ _ h) | (cases h <;> (repeat (first | refine g6_ ?_)) <;> (first | done | rfl | trivial | (simp; done) | (exfalso; omega))) | (exfalso; omega))
    exact key _ _ _ h)
theorem fp_Mod_con {a0 : Int} {a1 : Int} {r : Int} (h : fp_Mod.f a0 a1 = some r) : Con Tryz.prog 177 [⟨.int .i64, a0⟩, ⟨.int .i64, a1⟩] [(false, ⟨.int .i64, r⟩)] := by
 refine con_ (ps := [0, 1, 4, 9]) (res := [(4, none)]) ?_ Tryz.func177 Tryz.ntmps177
 refine go_ ?_
 unfold fp_Mod.f at h
 replace h := hs_ h
 repeat' (first | split at h | fail)
 all_goals (first | (cases h <;> (repeat (first | refine g6_ ?_)) <;> (first | done | rfl | trivial | (simp; done) | (exfalso; omega))) | (exfalso; omega))
theorem fp_Inv_con {k : Nat} {a0 : Int} {a1 : Int} {r : Int} (h : fp_Inv.f k a0 a1 = some r) : Con Tryz.prog 145 [⟨.int .i64, a0⟩, ⟨.int .i64, a1⟩] [(false, ⟨.int .i64, r⟩)] := by
 refine con_ (ps := [0, 1, 4, 5, 6, 7, 8, 9, 13]) (res := [(4, none)]) ?_ Tryz.func145 Tryz.ntmps145
 refine go_ ?_
 unfold fp_Inv.f at h
 replace h := hs_ h
 repeat' (first | split at h | (refine bnf h fun t e h => ?_; (repeat (first | refine g6_ ?_)); refine .inl ⟨_, (by first | exact fp_Mod_con e), ?_⟩; refine go_ ?_) | (refine bnf h fun t e h => ?_; (repeat (first | refine g6_ ?_ | (refine .inl ⟨_, (by first | exact fp_Mod_con ‹_›), ?_⟩; refine go_ ?_))); refine .inl ⟨_, (by first | exact fp_Mod_con e), ?_⟩; refine go_ ?_) | fail)
 all_goals first
  | (cases h <;> (repeat (first | refine g6_ ?_ | (refine .inl ⟨_, (by first | exact fp_Mod_con ‹_›), ?_⟩; refine go_ ?_))) <;> (first | done | rfl | trivial | (simp; done) | (exfalso; omega)))
  | (exfalso; omega)
  | (
    (with_reducible have h : fp_Inv.l0 _ _ _ _ _ _ = some r := h)
    repeat (first | refine g6_ ?_ | (refine .inl ⟨_, (by first | exact fp_Mod_con ‹_›), ?_⟩; refine go_ ?_))
    refine lp [(0, .keep), (5, .keep), (6, .keep), (7, .keep), (8, .keep)] fun X0 hX0 => ?_
    refine go_ ?_
    have key : ∀ k x0 x5 x6 x7 x8, fp_Inv.l0 k x0 x5 x6 x7 x8 = some r → X0 ⟨lkp .bot [(8, .ro (.int .i64) x8), (7, .ro (.int .i64) x7), (6, .ro (.int .i64) x6), (5, .ro (.int .i64) x5), (0, .ro (.int .i64) x0)], lkp none [], 0⟩ := by
     refine sind fun k ih0 x0 x5 x6 x7 x8 h => hX0 _ ?_
     clear hX0
     rcases k with _ | k
     ·cases h
     unfold fp_Inv.l0 at h
     replace h := hs_ h
     refine go_ ?_
     repeat' (first | split at h | (refine bnf h fun t e h => ?_; (repeat (first | refine g6_ ?_)); refine .inl ⟨_, (by first | exact fp_Mod_con e), ?_⟩; refine go_ ?_) | (refine bnf h fun t e h => ?_; (repeat (first | refine g6_ ?_ | (refine .inl ⟨_, (by first | exact fp_Mod_con ‹_›), ?_⟩; refine go_ ?_))); refine .inl ⟨_, (by first | exact fp_Mod_con e), ?_⟩; refine go_ ?_) | fail)
     all_goals (first | ((repeat (first | refine g6_ ?_ | (refine .inl ⟨_, (by first | exact fp_Mod_con ‹_›), ?_⟩; refine go_ ?_))); exact ih0 _ (by omega) _ _ _ _ _ h) | (cases h <;> (repeat (first | refine g6_ ?_ | (refine .inl ⟨_, (by first | exact fp_Mod_con ‹_›), ?_⟩; refine go_ ?_))) <;> (first | done | rfl | trivial | (simp; done) | (exfalso; omega))) | (exfalso; omega))
    exact key _ _ _ _ _ _ h)
theorem fp_DivMod_con {k : Nat} {a0 : Int} {l1 : List Int} {l2 : List Int} {r1 : List Int} {r2 : List Int} (h : fp_DivMod.f k a0 l1 l2 = some (r1, r2)) : Con Tryz.prog 146 [⟨.int .i64, a0⟩, ⟨.sl 3 (.int .i64), l1⟩, ⟨.sl 3 (.int .i64), l2⟩] [(false, ⟨.sl 3 (.int .i64), r1⟩), (false, ⟨.sl 3 (.int .i64), r2⟩)] := by
 refine con_ (ps := [0, 1, 2, 6, 7, 8, 9, 10, 11, 12, 13, 14, 15, 24, 44, 62, 63, 64, 65]) (res := [(6, none), (7, none)]) ?_ Tryz.func146 Tryz.ntmps146
 refine go_ ?_
 unfold fp_DivMod.f at h
 replace h := hs_ h
 repeat' (first | split at h | (refine bnf h fun t e h => ?_; (repeat (first | (refine fr_ [.tmp 8, .tmp 10] 87 (by rfl) ?_; refine go_ ?_) | refine g6_ ?_)); refine .inl ⟨_, (by first | exact fp_Inv_con e | exact fp_Mod_con e | exact fp_Trim_con e), ?_⟩; refine go_ ?_) | (refine bnf h fun t e h => ?_; (repeat (first | (refine fr_ [.tmp 8, .tmp 10] 87 (by rfl) ?_; refine go_ ?_) | refine g6_ ?_ | (refine .inl ⟨_, (by first | exact fp_Inv_con ‹_› | exact fp_Mod_con ‹_› | exact fp_Trim_con ‹_›), ?_⟩; refine go_ ?_))); refine .inl ⟨_, (by first | exact fp_Inv_con e | exact fp_Mod_con e | exact fp_Trim_con e), ?_⟩; refine go_ ?_) | fail)
 all_goals first
  | (cases h <;> (repeat (first | (refine fr_ [.tmp 8, .tmp 10] 87 (by rfl) ?_; refine go_ ?_) | refine g6_ ?_ | (refine .inl ⟨_, (by first | exact fp_Inv_con ‹_› | exact fp_Mod_con ‹_› | exact fp_Trim_con ‹_›), ?_⟩; refine go_ ?_))) <;> (first | done | rfl | trivial | (simp; done) | (exfalso; omega)))
  | (exfalso; omega)
  | (
    (with_reducible have h : fp_DivMod.l0 _ _ _ _ _ _ _ _ = some (r1, r2) := h)
    repeat (first | (refine fr_ [.tmp 8, .tmp 10] 87 (by rfl) ?_; refine go_ ?_) | refine g6_ ?_ | (refine .inl ⟨_, (by first | exact fp_Inv_con ‹_› | exact fp_Mod_con ‹_› | exact fp_Trim_con ‹_›), ?_⟩; refine go_ ?_))
    refine lp [(0, .keep), (2, .row 3 (.int .i64)), (8, .own 3 (.int .i64)), (9, .keep), (10, .own 3 (.int .i64)), (11, .keep), (12, .keep)] fun X0 hX0 => ?_
    refine go_ ?_
    have key : ∀ k x0 x2 x8 x9 x10 x11 x12, fp_DivMod.l0 k x0 x2 x8 x9 x10 x11 x12 = some (r1, r2) → X0 ⟨lkp .bot [(12, .ro (.int .i64) x12), (11, .ro (.int .i64) x11), (10, .own 20), (9, .ro (.int .i64) x9), (8, .own 16), (2, .ro (.sl 3 (.int .i64)) x2), (0, .ro (.int .i64) x0)], lkp none [(20, some ⟨3, .int .i64, x10, true⟩), (16, some ⟨3, .int .i64, x8, true⟩)], 0⟩ := by
     refine sind fun k ih0 x0 x2 x8 x9 x10 x11 x12 h => hX0 _ ?_
     clear hX0
     rcases k with _ | k
     ·cases h
     unfold fp_DivMod.l0 at h
     replace h := hs_ h
     refine go_ ?_
     repeat' (first | split at h | (refine bnf h fun t e h => ?_; (repeat (first | (refine fr_ [.tmp 8, .tmp 10] 87 (by rfl) ?_; refine go_ ?_) | refine g6_ ?_)); refine .inl ⟨_, (by first | exact fp_Inv_con e | exact fp_Mod_con e | exact fp_Trim_con e), ?_⟩; refine go_ ?_) | (refine bnf h fun t e h => ?_; (repeat (first | (refine fr_ [.tmp 8, .tmp 10] 87 (by rfl) ?_; refine go_ ?_) | refine g6_ ?_ | (refine .inl ⟨_, (by first | exact fp_Inv_con ‹_› | exact fp_Mod_con ‹_› | exact fp_Trim_con ‹_›), ?_⟩; refine go_ ?_))); refine .inl ⟨_, (by first | exact fp_Inv_con e | exact fp_Mod_con e | exact fp_Trim_con e), ?_⟩; refine go_ ?_) | fail)
     all_goals first
      | ((repeat (first | (refine fr_ [.tmp 8, .tmp 10] 87 (by rfl) ?_; refine go_ ?_) | refine g6_ ?_ | (refine .inl ⟨_, (by first | exact fp_Inv_con ‹_› | exact fp_Mod_con ‹_› | exact fp_Trim_con ‹_›), ?_⟩; refine go_ ?_))); exact ih0 _ (by omega) _ _ _ _ _ _ _ h)
      | (cases h <;> (repeat (first | (refine fr_ [.tmp 8, .tmp 10] 87 (by rfl) ?_; refine go_ ?_) | refine g6_ ?_ | (refine .inl ⟨_, (by first | exact fp_Inv_con ‹_› | exact fp_Mod_con ‹_› | exact fp_Trim_con ‹_›), ?_⟩; refine go_ ?_))) <;> (first | done | rfl | trivial | (simp; done) | (exfalso; omega)))
      | (exfalso; omega)
      | (
       (with_reducible have h : fp_DivMod.l1 _ _ _ _ _ _ _ _ _ _ _ _ = some (r1, r2) := h)
       repeat (first | (refine fr_ [.tmp 8, .tmp 10] 87 (by rfl) ?_; refine go_ ?_) | refine g6_ ?_ | (refine .inl ⟨_, (by first | exact fp_Inv_con ‹_› | exact fp_Mod_con ‹_› | exact fp_Trim_con ‹_›), ?_⟩; refine go_ ?_))
       refine lp [(0, .keep), (2, .row 3 (.int .i64)), (8, .own 3 (.int .i64)), (9, .keep), (10, .own 3 (.int .i64)), (11, .keep), (12, .keep), (13, .keep), (62, .row 3 (.int .i64)), (63, .keep), (64, .keep)] fun X1 hX1 => ?_
       refine go_ ?_
       have key : ∀ j, j ≤ k → ∀ x0 x2 x8 x9 x10 x11 x12 x13 x62 x63 x64, fp_DivMod.l1 j x0 x2 x8 x9 x10 x11 x12 x13 x62 x63 x64 = some (r1, r2) → X1 ⟨lkp .bot [(64, .ro (.int .i64) x64), (63, .ro (.int .i64) x63), (62, .ro (.sl 3 (.int .i64)) x62), (13, .ro (.int .i64) x13), (12, .ro (.int .i64) x12), (11, .ro (.int .i64) x11), (10, .own 20), (9, .ro (.int .i64) x9), (8, .own 16), (2, .ro (.sl 3 (.int .i64)) x2), (0, .ro (.int .i64) x0)], lkp none [(20, some ⟨3, .int .i64, x10, true⟩), (16, some ⟨3, .int .i64, x8, true⟩)], 0⟩ := by
        refine sinb fun k hk1 ih1 x0 x2 x8 x9 x10 x11 x12 x13 x62 x63 x64 h => hX1 _ ?_
        clear hX1
        rcases k with _ | k
        ·cases h
        unfold fp_DivMod.l1 at h
        replace h := hs_ h
        refine go_ ?_
        repeat' (first | split at h | (refine bnf h fun t e h => ?_; (repeat (first | (refine fr_ [.tmp 8, .tmp 10] 87 (by rfl) ?_; refine go_ ?_) | refine g6_ ?_)); refine .inl ⟨_, (by first | exact fp_Inv_con e | exact fp_Mod_con e | exact fp_Trim_con e), ?_⟩; refine go_ ?_) | (refine bnf h fun t e h => ?_; (repeat (first | (refine fr_ [.tmp 8, .tmp 10] 87 (by rfl) ?_; refine go_ ?_) | refine g6_ ?_ | (refine .inl ⟨_, (by first | exact fp_Inv_con ‹_› | exact fp_Mod_con ‹_› | exact fp_Trim_con ‹_›), ?_⟩; refine go_ ?_))); refine .inl ⟨_, (by first | exact fp_Inv_con e | exact fp_Mod_con e | exact fp_Trim_con e), ?_⟩; refine go_ ?_) | fail)
        all_goals (first | ((repeat (first | (refine fr_ [.tmp 8, .tmp 10] 87 (by rfl) ?_; refine go_ ?_) | refine g6_ ?_ | (refine .inl ⟨_, (by first | exact fp_Inv_con ‹_› | exact fp_Mod_con ‹_› | exact fp_Trim_con ‹_›), ?_⟩; refine go_ ?_))); exact ih1 _ (by omega) _ _ _ _ _ _ _ _ _ _ _ h) | ((repeat (first | (refine fr_ [.tmp 8, .tmp 10] 87 (by rfl) ?_; refine go_ ?_) | refine g6_ ?_ | (refine .inl ⟨_, (by first | exact fp_Inv_con ‹_› | exact fp_Mod_con ‹_› | exact fp_Trim_con ‹_›), ?_⟩; refine go_ ?_))); exact ih0 _ (by omega) _ _ _ _ _ _ _ h) | (cases h <;> (repeat (first | (refine fr_ [.tmp 8, .tmp 10] 87 (by rfl) ?_; refine go_ ?_) | refine g6_ ?_ | (refine .inl ⟨_, (by first | exact fp_Inv_con ‹_› | exact fp_Mod_con ‹_› | exact fp_Trim_con ‹_›), ?_⟩; refine go_ ?_))) <;> (first | done | rfl | trivial | (simp; done) | (exfalso; omega))) | (exfalso; omega))
       exact key _ (by omega) _ _ _ _ _ _ _ _ _ _ _ h)
    exact key _ _ _ _ _ _ _ _ h)
theorem fp_Rem_con {k : Nat} {a0 : Int} {l1 : List Int} {l2 : List Int} {r : List Int} (h : fp_Rem.f k a0 l1 l2 = some r) : Con Tryz.prog 109 [⟨.int .i64, a0⟩, ⟨.sl 3 (.int .i64), l1⟩, ⟨.sl 3 (.int .i64), l2⟩] [(false, ⟨.sl 3 (.int .i64), r⟩)] := by
 refine con_ (ps := [0, 1, 2, 6, 8]) (res := [(6, none)]) ?_ Tryz.func109 Tryz.ntmps109
 refine go_ ?_
 unfold fp_Rem.f at h
 replace h := hs_ h
 repeat' (first | split at h | (refine bnf h fun t e h => ?_; (repeat (first | refine g6_ ?_)); refine .inl ⟨_, (by first | exact fp_DivMod_con e), ?_⟩; refine go_ ?_) | (refine bnf h fun t e h => ?_; (repeat (first | refine g6_ ?_ | (refine .inl ⟨_, (by first | exact fp_DivMod_con ‹_›), ?_⟩; refine go_ ?_))); refine .inl ⟨_, (by first | exact fp_DivMod_con e), ?_⟩; refine go_ ?_) | fail)
 all_goals (first | (cases h <;> (repeat (first | refine g6_ ?_ | (refine .inl ⟨_, (by first | exact fp_DivMod_con ‹_›), ?_⟩; refine go_ ?_))) <;> (first | done | rfl | trivial | (simp; done) | (exfalso; omega))) | (exfalso; omega))
theorem fp_Mul_con {k : Nat} {a0 : Int} {l1 : List Int} {l2 : List Int} {r : List Int} (h : fp_Mul.f k a0 l1 l2 = some r) : Con Tryz.prog 148 [⟨.int .i64, a0⟩, ⟨.sl 3 (.int .i64), l1⟩, ⟨.sl 3 (.int .i64), l2⟩] [(false, ⟨.sl 3 (.int .i64), r⟩)] := by
 refine con_ (ps := [0, 1, 2, 6, 7, 8, 9, 10, 11, 19, 27, 28, 29, 30, 34, 35, 36, 37]) (res := [(6, none)]) ?_ Tryz.func148 Tryz.ntmps148
 refine go_ ?_
 unfold fp_Mul.f at h
 replace h := hs_ h
 repeat' (first | split at h | (refine bnf h fun t e h => ?_; (repeat (first | refine g6_ ?_)); refine .inl ⟨_, (by first | exact fp_Trim_con e), ?_⟩; refine go_ ?_) | (refine bnf h fun t e h => ?_; (repeat (first | refine g6_ ?_ | (refine .inl ⟨_, (by first | exact fp_Trim_con ‹_›), ?_⟩; refine go_ ?_))); refine .inl ⟨_, (by first | exact fp_Trim_con e), ?_⟩; refine go_ ?_) | (rcases k with _ | k; (· cases h); unfold fp_Mul.j0 at h; replace h := hs_ h) | fail)
 all_goals first
  | (cases h <;> (repeat (first | refine g6_ ?_ | (refine .inl ⟨_, (by first | exact fp_Trim_con ‹_›), ?_⟩; refine go_ ?_))) <;> (first | done | rfl | trivial | (simp; done) | (exfalso; omega)))
  | (exfalso; omega)
  | (
    (with_reducible have h : fp_Mul.l0 _ _ _ _ _ _ _ = some r := h)
    repeat (first | refine g6_ ?_ | (refine .inl ⟨_, (by first | exact fp_Trim_con ‹_›), ?_⟩; refine go_ ?_))
    refine lp [(0, .keep), (2, .row 3 (.int .i64)), (7, .own 3 (.int .i64)), (27, .row 3 (.int .i64)), (28, .keep), (29, .keep)] fun X0 hX0 => ?_
    refine go_ ?_
    have key : ∀ k x0 x2 x7 x27 x28 x29, fp_Mul.l0 k x0 x2 x7 x27 x28 x29 = some r → X0 ⟨lkp .bot [(29, .ro (.int .i64) x29), (28, .ro (.int .i64) x28), (27, .ro (.sl 3 (.int .i64)) x27), (7, .own 14), (2, .ro (.sl 3 (.int .i64)) x2), (0, .ro (.int .i64) x0)], lkp none [(14, some ⟨3, .int .i64, x7, true⟩)], 0⟩ := by
     refine sind fun k ih0 x0 x2 x7 x27 x28 x29 h => hX0 _ ?_
     clear hX0
     rcases k with _ | k
     ·cases h
     unfold fp_Mul.l0 at h
     replace h := hs_ h
     refine go_ ?_
     repeat' (first | split at h | (refine bnf h fun t e h => ?_; (repeat (first | refine g6_ ?_)); refine .inl ⟨_, (by first | exact fp_Trim_con e), ?_⟩; refine go_ ?_) | (refine bnf h fun t e h => ?_; (repeat (first | refine g6_ ?_ | (refine .inl ⟨_, (by first | exact fp_Trim_con ‹_›), ?_⟩; refine go_ ?_))); refine .inl ⟨_, (by first | exact fp_Trim_con e), ?_⟩; refine go_ ?_) | (rcases k with _ | k; (· cases h); unfold fp_Mul.j0 at h; replace h := hs_ h) | fail)
     all_goals first
      | ((repeat (first | refine g6_ ?_ | (refine .inl ⟨_, (by first | exact fp_Trim_con ‹_›), ?_⟩; refine go_ ?_))); exact ih0 _ (by omega) _ _ _ _ _ _ h)
      | (cases h <;> (repeat (first | refine g6_ ?_ | (refine .inl ⟨_, (by first | exact fp_Trim_con ‹_›), ?_⟩; refine go_ ?_))) <;> (first | done | rfl | trivial | (simp; done) | (exfalso; omega)))
      | (exfalso; omega)
      | (
       (with_reducible have h : fp_Mul.l1 _ _ _ _ _ _ _ _ _ _ _ _ = some r := h)
       repeat (first | refine g6_ ?_ | (refine .inl ⟨_, (by first | exact fp_Trim_con ‹_›), ?_⟩; refine go_ ?_))
       refine lp [(0, .keep), (2, .row 3 (.int .i64)), (7, .own 3 (.int .i64)), (8, .keep), (9, .keep), (27, .row 3 (.int .i64)), (28, .keep), (29, .keep), (34, .row 3 (.int .i64)), (35, .keep), (36, .keep)] fun X1 hX1 => ?_
       refine go_ ?_
       have key : ∀ j, j ≤ k → ∀ x0 x2 x7 x8 x9 x27 x28 x29 x34 x35 x36, fp_Mul.l1 j x0 x2 x7 x8 x9 x27 x28 x29 x34 x35 x36 = some r → X1 ⟨lkp .bot [(36, .ro (.int .i64) x36), (35, .ro (.int .i64) x35), (34, .ro (.sl 3 (.int .i64)) x34), (29, .ro (.int .i64) x29), (28, .ro (.int .i64) x28), (27, .ro (.sl 3 (.int .i64)) x27), (9, .ro (.int .i64) x9), (8, .ro (.int .i64) x8), (7, .own 14), (2, .ro (.sl 3 (.int .i64)) x2), (0, .ro (.int .i64) x0)], lkp none [(14, some ⟨3, .int .i64, x7, true⟩)], 0⟩ := by
        refine sinb fun k hk1 ih1 x0 x2 x7 x8 x9 x27 x28 x29 x34 x35 x36 h => hX1 _ ?_
        clear hX1
        rcases k with _ | k
        ·cases h
        unfold fp_Mul.l1 at h
        replace h := hs_ h
        refine go_ ?_
        repeat' (first | split at h | (refine bnf h fun t e h => ?_; (repeat (first | refine g6_ ?_)); refine .inl ⟨_, (by first | exact fp_Trim_con e), ?_⟩; refine go_ ?_) | (refine bnf h fun t e h => ?_; (repeat (first | refine g6_ ?_ | (refine .inl ⟨_, (by first | exact fp_Trim_con ‹_›), ?_⟩; refine go_ ?_))); refine .inl ⟨_, (by first | exact fp_Trim_con e), ?_⟩; refine go_ ?_) | (rcases k with _ | k; (· cases h); unfold fp_Mul.j0 at h; replace h := hs_ h) | fail)
        all_goals (first | ((repeat (first | refine g6_ ?_ | (refine .inl ⟨_, (by first | exact fp_Trim_con ‹_›), ?_⟩; refine go_ ?_))); exact ih1 _ (by omega) _ _ _ _ _ _ _ _ _ _ _ h) | ((repeat (first | refine g6_ ?_ | (refine .inl ⟨_, (by first | exact fp_Trim_con ‹_›), ?_⟩; refine go_ ?_))); exact ih0 _ (by omega) _ _ _ _ _ _ h) | (cases h <;> (repeat (first | refine g6_ ?_ | (refine .inl ⟨_, (by first | exact fp_Trim_con ‹_›), ?_⟩; refine go_ ?_))) <;> (first | done | rfl | trivial | (simp; done) | (exfalso; omega))) | (exfalso; omega))
       exact key _ (by omega) _ _ _ _ _ _ _ _ _ _ _ h)
    exact key _ _ _ _ _ _ _ h)
theorem fp_MulMod_con {k : Nat} {a0 : Int} {l1 : List Int} {l2 : List Int} {l3 : List Int} {r : List Int} (h : fp_MulMod.f k a0 l1 l2 l3 = some r) : Con Tryz.prog 110 [⟨.int .i64, a0⟩, ⟨.sl 3 (.int .i64), l1⟩, ⟨.sl 3 (.int .i64), l2⟩, ⟨.sl 3 (.int .i64), l3⟩] [(false, ⟨.sl 3 (.int .i64), r⟩)] := by
 refine con_ (ps := [0, 1, 2, 3, 8]) (res := [(8, none)]) ?_ Tryz.func110 Tryz.ntmps110
 refine go_ ?_
 unfold fp_MulMod.f at h
 replace h := hs_ h
 repeat' (first | split at h | (refine bnf h fun t e h => ?_; (repeat (first | refine g6_ ?_)); refine .inl ⟨_, (by first | exact fp_Mul_con e | exact fp_Rem_con e), ?_⟩; refine go_ ?_) | (refine bnf h fun t e h => ?_; (repeat (first | refine g6_ ?_ | (refine .inl ⟨_, (by first | exact fp_Mul_con ‹_› | exact fp_Rem_con ‹_›), ?_⟩; refine go_ ?_))); refine .inl ⟨_, (by first | exact fp_Mul_con e | exact fp_Rem_con e), ?_⟩; refine go_ ?_) | fail)
 all_goals (first | (cases h <;> (repeat (first | refine g6_ ?_ | (refine .inl ⟨_, (by first | exact fp_Mul_con ‹_› | exact fp_Rem_con ‹_›), ?_⟩; refine go_ ?_))) <;> (first | done | rfl | trivial | (simp; done) | (exfalso; omega))) | (exfalso; omega))
theorem fp_PowMod_con {k : Nat} {a0 : Int} {l1 : List Int} {a2 : ByteArray} {l3 : List Int} {r : List Int} (h : fp_PowMod.f k a0 l1 a2 l3 = some r) : Con Tryz.prog 119 [⟨.int .i64, a0⟩, ⟨.sl 3 (.int .i64), l1⟩, ⟨.str, a2⟩, ⟨.sl 3 (.int .i64), l3⟩] [(false, ⟨.sl 3 (.int .i64), r⟩)] := by
 refine con_ (ps := [0, 1, 2, 3, 8, 9, 10, 11, 12, 22, 23, 24, 27, 41]) (res := [(8, none)]) ?_ Tryz.func119 Tryz.ntmps119
 refine go_ ?_
 unfold fp_PowMod.f at h
 replace h := hs_ h
 repeat' (first | split at h | (refine bnf h fun t e h => ?_; (repeat (first | refine g6_ ?_)); refine .inl ⟨_, (by first | exact fp_Rem_con e | exact fp_MulMod_con e), ?_⟩; refine go_ ?_) | (refine bnf h fun t e h => ?_; (repeat (first | refine g6_ ?_ | (refine .inl ⟨_, (by first | exact fp_Rem_con ‹_› | exact fp_MulMod_con ‹_›), ?_⟩; refine go_ ?_))); refine .inl ⟨_, (by first | exact fp_Rem_con e | exact fp_MulMod_con e), ?_⟩; refine go_ ?_) | fail)
 all_goals first
  | (cases h <;> (repeat (first | refine g6_ ?_ | (refine .inl ⟨_, (by first | exact fp_Rem_con ‹_› | exact fp_MulMod_con ‹_›), ?_⟩; refine go_ ?_))) <;> (first | done | rfl | trivial | (simp; done) | (exfalso; omega)))
  | (exfalso; omega)
  | (
    (with_reducible have h : fp_PowMod.l0 _ _ _ _ _ _ _ _ = some r := h)
    repeat (first | refine g6_ ?_ | (refine .inl ⟨_, (by first | exact fp_Rem_con ‹_› | exact fp_MulMod_con ‹_›), ?_⟩; refine go_ ?_))
    refine lp [(0, .keep), (2, .keep), (3, .row 3 (.int .i64)), (9, .row 3 (.int .i64)), (10, .row 3 (.int .i64)), (22, .keep), (23, .keep)] fun X0 hX0 => ?_
    refine go_ ?_
    have key : ∀ k x0 x2 x3 x9 x10 x22 x23, fp_PowMod.l0 k x0 x2 x3 x9 x10 x22 x23 = some r → X0 ⟨lkp .bot [(23, .ro (.int .i64) x23), (22, .ro (.int .i64) x22), (10, .ro (.sl 3 (.int .i64)) x10), (9, .ro (.sl 3 (.int .i64)) x9), (3, .ro (.sl 3 (.int .i64)) x3), (2, .ro (.str) x2), (0, .ro (.int .i64) x0)], lkp none [], 0⟩ := by
     refine sind fun k ih0 x0 x2 x3 x9 x10 x22 x23 h => hX0 _ ?_
     clear hX0
     rcases k with _ | k
     ·cases h
     unfold fp_PowMod.l0 at h
     replace h := hs_ h
     refine go_ ?_
     repeat' (first | split at h | (refine bnf h fun t e h => ?_; (repeat (first | refine g6_ ?_)); refine .inl ⟨_, (by first | exact fp_Rem_con e | exact fp_MulMod_con e), ?_⟩; refine go_ ?_) | (refine bnf h fun t e h => ?_; (repeat (first | refine g6_ ?_ | (refine .inl ⟨_, (by first | exact fp_Rem_con ‹_› | exact fp_MulMod_con ‹_›), ?_⟩; refine go_ ?_))); refine .inl ⟨_, (by first | exact fp_Rem_con e | exact fp_MulMod_con e), ?_⟩; refine go_ ?_) | fail)
     all_goals first
      | ((repeat (first | refine g6_ ?_ | (refine .inl ⟨_, (by first | exact fp_Rem_con ‹_› | exact fp_MulMod_con ‹_›), ?_⟩; refine go_ ?_))); exact ih0 _ (by omega) _ _ _ _ _ _ _ h)
      | (cases h <;> (repeat (first | refine g6_ ?_ | (refine .inl ⟨_, (by first | exact fp_Rem_con ‹_› | exact fp_MulMod_con ‹_›), ?_⟩; refine go_ ?_))) <;> (first | done | rfl | trivial | (simp; done) | (exfalso; omega)))
      | (exfalso; omega)
      | (
       (with_reducible have h : fp_PowMod.l1 _ _ _ _ _ _ _ _ _ _ = some r := h)
       repeat (first | refine g6_ ?_ | (refine .inl ⟨_, (by first | exact fp_Rem_con ‹_› | exact fp_MulMod_con ‹_›), ?_⟩; refine go_ ?_))
       refine lp [(0, .keep), (2, .keep), (3, .row 3 (.int .i64)), (9, .row 3 (.int .i64)), (10, .row 3 (.int .i64)), (11, .keep), (12, .keep), (22, .keep), (23, .keep)] fun X1 hX1 => ?_
       refine go_ ?_
       have key : ∀ j, j ≤ k → ∀ x0 x2 x3 x9 x10 x11 x12 x22 x23, fp_PowMod.l1 j x0 x2 x3 x9 x10 x11 x12 x22 x23 = some r → X1 ⟨lkp .bot [(23, .ro (.int .i64) x23), (22, .ro (.int .i64) x22), (12, .ro (.int .i64) x12), (11, .ro (.int .i64) x11), (10, .ro (.sl 3 (.int .i64)) x10), (9, .ro (.sl 3 (.int .i64)) x9), (3, .ro (.sl 3 (.int .i64)) x3), (2, .ro (.str) x2), (0, .ro (.int .i64) x0)], lkp none [], 0⟩ := by
        refine sinb fun k hk1 ih1 x0 x2 x3 x9 x10 x11 x12 x22 x23 h => hX1 _ ?_
        clear hX1
        rcases k with _ | k
        ·cases h
        unfold fp_PowMod.l1 at h
        replace h := hs_ h
        refine go_ ?_
        repeat' (first | split at h | (refine bnf h fun t e h => ?_; (repeat (first | refine g6_ ?_)); refine .inl ⟨_, (by first | exact fp_Rem_con e | exact fp_MulMod_con e), ?_⟩; refine go_ ?_) | (refine bnf h fun t e h => ?_; (repeat (first | refine g6_ ?_ | (refine .inl ⟨_, (by first | exact fp_Rem_con ‹_› | exact fp_MulMod_con ‹_›), ?_⟩; refine go_ ?_))); refine .inl ⟨_, (by first | exact fp_Rem_con e | exact fp_MulMod_con e), ?_⟩; refine go_ ?_) | fail)
        all_goals (first | ((repeat (first | refine g6_ ?_ | (refine .inl ⟨_, (by first | exact fp_Rem_con ‹_› | exact fp_MulMod_con ‹_›), ?_⟩; refine go_ ?_))); exact ih1 _ (by omega) _ _ _ _ _ _ _ _ _ h) | ((repeat (first | refine g6_ ?_ | (refine .inl ⟨_, (by first | exact fp_Rem_con ‹_› | exact fp_MulMod_con ‹_›), ?_⟩; refine go_ ?_))); exact ih0 _ (by omega) _ _ _ _ _ _ _ h) | (cases h <;> (repeat (first | refine g6_ ?_ | (refine .inl ⟨_, (by first | exact fp_Rem_con ‹_› | exact fp_MulMod_con ‹_›), ?_⟩; refine go_ ?_))) <;> (first | done | rfl | trivial | (simp; done) | (exfalso; omega))) | (exfalso; omega))
       exact key _ (by omega) _ _ _ _ _ _ _ _ _ h)
    exact key _ _ _ _ _ _ _ _ h)
theorem fp_Power_con {k : Nat} {a0 : Int} {l1 : List Int} {l2 : List Int} {r : List Int} (h : fp_Power.f k a0 l1 l2 = some r) : Con Tryz.prog 125 [⟨.int .i64, a0⟩, ⟨.sl 3 (.int .i64), l1⟩, ⟨.sl 3 (.int .i64), l2⟩] [(false, ⟨.sl 3 (.int .i64), r⟩)] := by
 refine con_ (ps := [0, 1, 2, 6]) (res := [(6, none)]) ?_ Tryz.func125 Tryz.ntmps125
 refine go_ ?_
 unfold fp_Power.f at h
 replace h := hs_ h
 repeat' (first | split at h | (refine bnf h fun t e h => ?_; (repeat (first | refine g6_ ?_)); refine .inl ⟨_, (by first | exact fp_PowMod_con e), ?_⟩; refine go_ ?_) | (refine bnf h fun t e h => ?_; (repeat (first | refine g6_ ?_ | (refine .inl ⟨_, (by first | exact fp_PowMod_con ‹_›), ?_⟩; refine go_ ?_))); refine .inl ⟨_, (by first | exact fp_PowMod_con e), ?_⟩; refine go_ ?_) | fail)
 all_goals (first | (cases h <;> (repeat (first | refine g6_ ?_ | (refine .inl ⟨_, (by first | exact fp_PowMod_con ‹_›), ?_⟩; refine go_ ?_))) <;> (first | done | rfl | trivial | (simp; done) | (exfalso; omega))) | (exfalso; omega))
theorem fp_at_con {l0 : List Int} {a1 : Int} {r : Int} (h : fp_at.f l0 a1 = some r) : Con Tryz.prog 122 [⟨.sl 3 (.int .i64), l0⟩, ⟨.int .i64, a1⟩] [(false, ⟨.int .i64, r⟩)] := by
 refine con_ (ps := [0, 1, 4, 8]) (res := [(4, none)]) ?_ Tryz.func122 Tryz.ntmps122
 refine go_ ?_
 unfold fp_at.f at h
 replace h := hs_ h
 repeat' (first | split at h | fail)
 all_goals (first | (cases h <;> (repeat (first | refine g6_ ?_)) <;> (first | done | rfl | trivial | (simp; done) | (exfalso; omega))) | (exfalso; omega))
theorem fp_Sub_con {k : Nat} {a0 : Int} {l1 : List Int} {l2 : List Int} {r : List Int} (h : fp_Sub.f k a0 l1 l2 = some r) : Con Tryz.prog 147 [⟨.int .i64, a0⟩, ⟨.sl 3 (.int .i64), l1⟩, ⟨.sl 3 (.int .i64), l2⟩] [(false, ⟨.sl 3 (.int .i64), r⟩)] := by
 refine con_ (ps := [0, 1, 2, 6, 7, 8, 16, 17, 18]) (res := [(6, none)]) ?_ Tryz.func147 Tryz.ntmps147
 refine go_ ?_
 unfold fp_Sub.f at h
 replace h := hs_ h
 repeat' (first | split at h | (refine bnf h fun t e h => ?_; (repeat (first | refine g6_ ?_)); refine .inl ⟨_, (by first | exact fp_at_con e | exact fp_Trim_con e), ?_⟩; refine go_ ?_) | (refine bnf h fun t e h => ?_; (repeat (first | refine g6_ ?_ | (refine .inl ⟨_, (by first | exact fp_at_con ‹_› | exact fp_Trim_con ‹_›), ?_⟩; refine go_ ?_))); refine .inl ⟨_, (by first | exact fp_at_con e | exact fp_Trim_con e), ?_⟩; refine go_ ?_) | fail)
 all_goals first
  | (cases h <;> (repeat (first | refine g6_ ?_ | (refine .inl ⟨_, (by first | exact fp_at_con ‹_› | exact fp_Trim_con ‹_›), ?_⟩; refine go_ ?_))) <;> (first | done | rfl | trivial | (simp; done) | (exfalso; omega)))
  | (exfalso; omega)
  | (
    (with_reducible have h : fp_Sub.l0 _ _ _ _ _ _ _ = some r := h)
    repeat (first | refine g6_ ?_ | (refine .inl ⟨_, (by first | exact fp_at_con ‹_› | exact fp_Trim_con ‹_›), ?_⟩; refine go_ ?_))
    refine lp [(0, .keep), (1, .row 3 (.int .i64)), (2, .row 3 (.int .i64)), (7, .own 3 (.int .i64)), (16, .keep), (17, .keep)] fun X0 hX0 => ?_
    refine go_ ?_
    have key : ∀ k x0 x1 x2 x7 x16 x17, fp_Sub.l0 k x0 x1 x2 x7 x16 x17 = some r → X0 ⟨lkp .bot [(17, .ro (.int .i64) x17), (16, .ro (.int .i64) x16), (7, .own 14), (2, .ro (.sl 3 (.int .i64)) x2), (1, .ro (.sl 3 (.int .i64)) x1), (0, .ro (.int .i64) x0)], lkp none [(14, some ⟨3, .int .i64, x7, true⟩)], 0⟩ := by
     refine sind fun k ih0 x0 x1 x2 x7 x16 x17 h => hX0 _ ?_
     clear hX0
     rcases k with _ | k
     ·cases h
     unfold fp_Sub.l0 at h
     replace h := hs_ h
     refine go_ ?_
     repeat' (first | split at h | (refine bnf h fun t e h => ?_; (repeat (first | refine g6_ ?_)); refine .inl ⟨_, (by first | exact fp_at_con e | exact fp_Trim_con e), ?_⟩; refine go_ ?_) | (refine bnf h fun t e h => ?_; (repeat (first | refine g6_ ?_ | (refine .inl ⟨_, (by first | exact fp_at_con ‹_› | exact fp_Trim_con ‹_›), ?_⟩; refine go_ ?_))); refine .inl ⟨_, (by first | exact fp_at_con e | exact fp_Trim_con e), ?_⟩; refine go_ ?_) | fail)
     all_goals (first | ((repeat (first | refine g6_ ?_ | (refine .inl ⟨_, (by first | exact fp_at_con ‹_› | exact fp_Trim_con ‹_›), ?_⟩; refine go_ ?_))); exact ih0 _ (by omega) _ _ _ _ _ _ h) | (cases h <;> (repeat (first | refine g6_ ?_ | (refine .inl ⟨_, (by first | exact fp_at_con ‹_› | exact fp_Trim_con ‹_›), ?_⟩; refine go_ ?_))) <;> (first | done | rfl | trivial | (simp; done) | (exfalso; omega))) | (exfalso; omega))
    exact key _ _ _ _ _ _ _ h)
theorem fp_Scale_con {k : Nat} {a0 : Int} {l1 : List Int} {a2 : Int} {r : List Int} (h : fp_Scale.f k a0 l1 a2 = some r) : Con Tryz.prog 149 [⟨.int .i64, a0⟩, ⟨.sl 3 (.int .i64), l1⟩, ⟨.int .i64, a2⟩] [(false, ⟨.sl 3 (.int .i64), r⟩)] := by
 refine con_ (ps := [0, 1, 2, 6, 7, 8, 9, 13, 14, 15, 16]) (res := [(6, none)]) ?_ Tryz.func149 Tryz.ntmps149
 refine go_ ?_
 unfold fp_Scale.f at h
 replace h := hs_ h
 repeat' (first | split at h | (refine bnf h fun t e h => ?_; (repeat (first | refine g6_ ?_)); refine .inl ⟨_, (by first | exact fp_Trim_con e), ?_⟩; refine go_ ?_) | (refine bnf h fun t e h => ?_; (repeat (first | refine g6_ ?_ | (refine .inl ⟨_, (by first | exact fp_Trim_con ‹_›), ?_⟩; refine go_ ?_))); refine .inl ⟨_, (by first | exact fp_Trim_con e), ?_⟩; refine go_ ?_) | fail)
 all_goals first
  | (cases h <;> (repeat (first | refine g6_ ?_ | (refine .inl ⟨_, (by first | exact fp_Trim_con ‹_›), ?_⟩; refine go_ ?_))) <;> (first | done | rfl | trivial | (simp; done) | (exfalso; omega)))
  | (exfalso; omega)
  | (
    (with_reducible have h : fp_Scale.l0 _ _ _ _ _ _ _ = some r := h)
    repeat (first | refine g6_ ?_ | (refine .inl ⟨_, (by first | exact fp_Trim_con ‹_›), ?_⟩; refine go_ ?_))
    refine lp [(0, .keep), (2, .keep), (7, .own 3 (.int .i64)), (13, .row 3 (.int .i64)), (14, .keep), (15, .keep)] fun X0 hX0 => ?_
    refine go_ ?_
    have key : ∀ k x0 x2 x7 x13 x14 x15, fp_Scale.l0 k x0 x2 x7 x13 x14 x15 = some r → X0 ⟨lkp .bot [(15, .ro (.int .i64) x15), (14, .ro (.int .i64) x14), (13, .ro (.sl 3 (.int .i64)) x13), (7, .own 14), (2, .ro (.int .i64) x2), (0, .ro (.int .i64) x0)], lkp none [(14, some ⟨3, .int .i64, x7, true⟩)], 0⟩ := by
     refine sind fun k ih0 x0 x2 x7 x13 x14 x15 h => hX0 _ ?_
     clear hX0
     rcases k with _ | k
     ·cases h
     unfold fp_Scale.l0 at h
     replace h := hs_ h
     refine go_ ?_
     repeat' (first | split at h | (refine bnf h fun t e h => ?_; (repeat (first | refine g6_ ?_)); refine .inl ⟨_, (by first | exact fp_Trim_con e), ?_⟩; refine go_ ?_) | (refine bnf h fun t e h => ?_; (repeat (first | refine g6_ ?_ | (refine .inl ⟨_, (by first | exact fp_Trim_con ‹_›), ?_⟩; refine go_ ?_))); refine .inl ⟨_, (by first | exact fp_Trim_con e), ?_⟩; refine go_ ?_) | fail)
     all_goals (first | ((repeat (first | refine g6_ ?_ | (refine .inl ⟨_, (by first | exact fp_Trim_con ‹_›), ?_⟩; refine go_ ?_))); exact ih0 _ (by omega) _ _ _ _ _ _ h) | (cases h <;> (repeat (first | refine g6_ ?_ | (refine .inl ⟨_, (by first | exact fp_Trim_con ‹_›), ?_⟩; refine go_ ?_))) <;> (first | done | rfl | trivial | (simp; done) | (exfalso; omega))) | (exfalso; omega))
    exact key _ _ _ _ _ _ _ h)
theorem fp_Monic_con {k : Nat} {a0 : Int} {l1 : List Int} {r : List Int} (h : fp_Monic.f k a0 l1 = some r) : Con Tryz.prog 144 [⟨.int .i64, a0⟩, ⟨.sl 3 (.int .i64), l1⟩] [(false, ⟨.sl 3 (.int .i64), r⟩)] := by
 refine con_ (ps := [0, 1, 4, 7]) (res := [(4, none)]) ?_ Tryz.func144 Tryz.ntmps144
 refine go_ ?_
 unfold fp_Monic.f at h
 replace h := hs_ h
 repeat' (first | split at h | (refine bnf h fun t e h => ?_; (repeat (first | refine g6_ ?_)); refine .inl ⟨_, (by first | exact fp_Inv_con e | exact fp_Scale_con e), ?_⟩; refine go_ ?_) | (refine bnf h fun t e h => ?_; (repeat (first | refine g6_ ?_ | (refine .inl ⟨_, (by first | exact fp_Inv_con ‹_› | exact fp_Scale_con ‹_›), ?_⟩; refine go_ ?_))); refine .inl ⟨_, (by first | exact fp_Inv_con e | exact fp_Scale_con e), ?_⟩; refine go_ ?_) | fail)
 all_goals (first | (cases h <;> (repeat (first | refine g6_ ?_ | (refine .inl ⟨_, (by first | exact fp_Inv_con ‹_› | exact fp_Scale_con ‹_›), ?_⟩; refine go_ ?_))) <;> (first | done | rfl | trivial | (simp; done) | (exfalso; omega))) | (exfalso; omega))
theorem fp_Gcd_con {k : Nat} {a0 : Int} {l1 : List Int} {l2 : List Int} {r : List Int} (h : fp_Gcd.f k a0 l1 l2 = some r) : Con Tryz.prog 162 [⟨.int .i64, a0⟩, ⟨.sl 3 (.int .i64), l1⟩, ⟨.sl 3 (.int .i64), l2⟩] [(false, ⟨.sl 3 (.int .i64), r⟩)] := by
 refine con_ (ps := [0, 1, 2, 6, 9]) (res := [(6, none)]) ?_ Tryz.func162 Tryz.ntmps162
 refine go_ ?_
 unfold fp_Gcd.f at h
 replace h := hs_ h
 repeat' (first | split at h | (refine bnf h fun t e h => ?_; (repeat (first | refine g6_ ?_)); refine .inl ⟨_, (by first | exact fp_Rem_con e | exact fp_Monic_con e), ?_⟩; refine go_ ?_) | (refine bnf h fun t e h => ?_; (repeat (first | refine g6_ ?_ | (refine .inl ⟨_, (by first | exact fp_Rem_con ‹_› | exact fp_Monic_con ‹_›), ?_⟩; refine go_ ?_))); refine .inl ⟨_, (by first | exact fp_Rem_con e | exact fp_Monic_con e), ?_⟩; refine go_ ?_) | fail)
 all_goals first
  | (cases h <;> (repeat (first | refine g6_ ?_ | (refine .inl ⟨_, (by first | exact fp_Rem_con ‹_› | exact fp_Monic_con ‹_›), ?_⟩; refine go_ ?_))) <;> (first | done | rfl | trivial | (simp; done) | (exfalso; omega)))
  | (exfalso; omega)
  | (
    (with_reducible have h : fp_Gcd.l0 _ _ _ _ = some r := h)
    repeat (first | refine g6_ ?_ | (refine .inl ⟨_, (by first | exact fp_Rem_con ‹_› | exact fp_Monic_con ‹_›), ?_⟩; refine go_ ?_))
    refine lp [(0, .keep), (1, .row 3 (.int .i64)), (2, .row 3 (.int .i64))] fun X0 hX0 => ?_
    refine go_ ?_
    have key : ∀ k x0 x1 x2, fp_Gcd.l0 k x0 x1 x2 = some r → X0 ⟨lkp .bot [(2, .ro (.sl 3 (.int .i64)) x2), (1, .ro (.sl 3 (.int .i64)) x1), (0, .ro (.int .i64) x0)], lkp none [], 0⟩ := by
     refine sind fun k ih0 x0 x1 x2 h => hX0 _ ?_
     clear hX0
     rcases k with _ | k
     ·cases h
     unfold fp_Gcd.l0 at h
     replace h := hs_ h
     refine go_ ?_
     repeat' (first | split at h | (refine bnf h fun t e h => ?_; (repeat (first | refine g6_ ?_)); refine .inl ⟨_, (by first | exact fp_Rem_con e | exact fp_Monic_con e), ?_⟩; refine go_ ?_) | (refine bnf h fun t e h => ?_; (repeat (first | refine g6_ ?_ | (refine .inl ⟨_, (by first | exact fp_Rem_con ‹_› | exact fp_Monic_con ‹_›), ?_⟩; refine go_ ?_))); refine .inl ⟨_, (by first | exact fp_Rem_con e | exact fp_Monic_con e), ?_⟩; refine go_ ?_) | fail)
     all_goals (first | ((repeat (first | refine g6_ ?_ | (refine .inl ⟨_, (by first | exact fp_Rem_con ‹_› | exact fp_Monic_con ‹_›), ?_⟩; refine go_ ?_))); exact ih0 _ (by omega) _ _ _ h) | (cases h <;> (repeat (first | refine g6_ ?_ | (refine .inl ⟨_, (by first | exact fp_Rem_con ‹_› | exact fp_Monic_con ‹_›), ?_⟩; refine go_ ?_))) <;> (first | done | rfl | trivial | (simp; done) | (exfalso; omega))) | (exfalso; omega))
    exact key _ _ _ _ h)
theorem fp_Irreducible_con {k : Nat} {a0 : Int} {l1 : List Int} {r : Bool} (h : fp_Irreducible.f k a0 l1 = some r) : Con Tryz.prog 121 [⟨.int .i64, a0⟩, ⟨.sl 3 (.int .i64), l1⟩] [(false, ⟨.bool, r⟩)] := by
 refine con_ (ps := [0, 1, 4, 5, 6, 7, 8, 9, 14, 22, 38, 53]) (res := [(4, none)]) ?_ Tryz.func121 Tryz.ntmps121
 refine go_ ?_
 unfold fp_Irreducible.f at h
 replace h := hs_ h
 repeat' (first | split at h | (refine bnf h fun t e h => ?_; (repeat (first | refine g6_ ?_)); refine .inl ⟨_, (by first | exact fp_Rem_con e | exact fp_Power_con e | exact fp_Sub_con e | exact fp_Gcd_con e), ?_⟩; refine go_ ?_) | (refine bnf h fun t e h => ?_; (repeat (first | refine g6_ ?_ | (refine .inl ⟨_, (by first | exact fp_Rem_con ‹_› | exact fp_Power_con ‹_› | exact fp_Sub_con ‹_› | exact fp_Gcd_con ‹_›), ?_⟩; refine go_ ?_))); refine .inl ⟨_, (by first | exact fp_Rem_con e | exact fp_Power_con e | exact fp_Sub_con e | exact fp_Gcd_con e), ?_⟩; refine go_ ?_) | fail)
 all_goals first
  | (cases h <;> (repeat (first | refine g6_ ?_ | (refine .inl ⟨_, (by first | exact fp_Rem_con ‹_› | exact fp_Power_con ‹_› | exact fp_Sub_con ‹_› | exact fp_Gcd_con ‹_›), ?_⟩; refine go_ ?_))) <;> (first | done | rfl | trivial | (simp; done) | (exfalso; omega)))
  | (exfalso; omega)
  | (
    (with_reducible have h : fp_Irreducible.l0 _ _ _ _ _ _ _ = some r := h)
    repeat (first | refine g6_ ?_ | (refine .inl ⟨_, (by first | exact fp_Rem_con ‹_› | exact fp_Power_con ‹_› | exact fp_Sub_con ‹_› | exact fp_Gcd_con ‹_›), ?_⟩; refine go_ ?_))
    refine lp [(0, .keep), (1, .row 3 (.int .i64)), (5, .keep), (6, .row 3 (.int .i64)), (7, .row 3 (.int .i64)), (8, .keep)] fun X0 hX0 => ?_
    refine go_ ?_
    have key : ∀ k x0 x1 x5 x6 x7 x8, fp_Irreducible.l0 k x0 x1 x5 x6 x7 x8 = some r → X0 ⟨lkp .bot [(8, .ro (.int .i64) x8), (7, .ro (.sl 3 (.int .i64)) x7), (6, .ro (.sl 3 (.int .i64)) x6), (5, .ro (.int .i64) x5), (1, .ro (.sl 3 (.int .i64)) x1), (0, .ro (.int .i64) x0)], lkp none [], 0⟩ := by
     refine sind fun k ih0 x0 x1 x5 x6 x7 x8 h => hX0 _ ?_
     clear hX0
     rcases k with _ | k
     ·cases h
     unfold fp_Irreducible.l0 at h
     replace h := hs_ h
     refine go_ ?_
     repeat' (first | split at h | (refine bnf h fun t e h => ?_; (repeat (first | refine g6_ ?_)); refine .inl ⟨_, (by first | exact fp_Rem_con e | exact fp_Power_con e | exact fp_Sub_con e | exact fp_Gcd_con e), ?_⟩; refine go_ ?_) | (refine bnf h fun t e h => ?_; (repeat (first | refine g6_ ?_ | (refine .inl ⟨_, (by first | exact fp_Rem_con ‹_› | exact fp_Power_con ‹_› | exact fp_Sub_con ‹_› | exact fp_Gcd_con ‹_›), ?_⟩; refine go_ ?_))); refine .inl ⟨_, (by first | exact fp_Rem_con e | exact fp_Power_con e | exact fp_Sub_con e | exact fp_Gcd_con e), ?_⟩; refine go_ ?_) | fail)
     all_goals (first | ((repeat (first | refine g6_ ?_ | (refine .inl ⟨_, (by first | exact fp_Rem_con ‹_› | exact fp_Power_con ‹_› | exact fp_Sub_con ‹_› | exact fp_Gcd_con ‹_›), ?_⟩; refine go_ ?_))); exact ih0 _ (by omega) _ _ _ _ _ _ h) | (cases h <;> (repeat (first | refine g6_ ?_ | (refine .inl ⟨_, (by first | exact fp_Rem_con ‹_› | exact fp_Power_con ‹_› | exact fp_Sub_con ‹_› | exact fp_Gcd_con ‹_›), ?_⟩; refine go_ ?_))) <;> (first | done | rfl | trivial | (simp; done) | (exfalso; omega))) | (exfalso; omega))
    exact key _ _ _ _ _ _ _ h)
theorem fi_Check_con {k : Nat} {a0_0 : Int} {l0_1 : List Int} {r : Int} (h : fi_Check.f k a0_0 l0_1 = some r) : Con Tryz.prog 80 [⟨.pr (.int .i64) (.pr (.sl 3 (.int .i64)) (.un)), (a0_0, (l0_1, ()))⟩] [(false, ⟨.int .i64, r⟩)] := by
 refine con_ (ps := [0, 1, 2, 3, 4, 11, 17, 20, 31]) (res := [(2, none)]) ?_ Tryz.func80 Tryz.ntmps80
 refine go_ ?_
 unfold fi_Check.f at h
 replace h := hs_ h
 repeat' (first | split at h | (refine bnf h fun t e h => ?_; (repeat (first | refine g6_ ?_)); refine .inl ⟨_, (by first | exact pm_Check_con e | exact fp_Irreducible_con e), ?_⟩; refine go_ ?_) | (refine bnf h fun t e h => ?_; (repeat (first | refine g6_ ?_ | (refine .inl ⟨_, (by first | exact pm_Check_con ‹_› | exact fp_Irreducible_con ‹_›), ?_⟩; refine go_ ?_))); refine .inl ⟨_, (by first | exact pm_Check_con e | exact fp_Irreducible_con e), ?_⟩; refine go_ ?_) | (rcases k with _ | k; (· cases h); unfold fi_Check.j0 at h; replace h := hs_ h) | fail)
 all_goals (first | (cases h <;> (repeat (first | refine g6_ ?_ | (refine .inl ⟨_, (by first | exact pm_Check_con ‹_› | exact fp_Irreducible_con ‹_›), ?_⟩; refine go_ ?_))) <;> (first | done | rfl | trivial | (simp; done) | (exfalso; omega))) | (exfalso; omega))
theorem dl_open_con {k : Nat} {a0_0 : Int} {l0_1 : List Int} {a1 : Int} {l2 : List (List Int)} {r1 : Int} {r2 : List Int} {r3 : Int} {r4 : Int} (h : dl_open.f k a0_0 l0_1 a1 l2 = some (r1, r2, r3, r4)) : Con Tryz.prog 55 [⟨.pr (.int .i64) (.pr (.sl 3 (.int .i64)) (.un)), (a0_0, (l0_1, ()))⟩, ⟨.int .i64, a1⟩, ⟨.sl 23 (.sl 3 (.int .i64)), l2⟩] [(false, ⟨.pr (.pr (.int .i64) (.pr (.sl 3 (.int .i64)) (.un))) (.un), ((r1, (r2, ())), ())⟩), (false, ⟨.int .i64, r3⟩), (false, ⟨.int .i64, r4⟩)] := by
 refine con_ (ps := [0, 1, 2, 3, 6, 7, 8, 9, 10, 12, 13, 14, 15, 21, 24, 25, 26, 27, 35, 43, 57]) (res := [(6, some 87), (7, none), (8, none)]) ?_ Tryz.func55 Tryz.ntmps55
 refine go_ ?_
 unfold dl_open.f at h
 replace h := hs_ h
 repeat' (first | split at h | (refine bnf h fun t e h => ?_; (repeat (first | refine g6_ ?_)); refine .inl ⟨_, (by first | exact fi_Check_con e | exact pm_Check_con e | exact gFSize_con e), ?_⟩; refine go_ ?_) | (refine bnf h fun t e h => ?_; (repeat (first | refine g6_ ?_ | (refine .inl ⟨_, (by first | exact fi_Check_con ‹_› | exact pm_Check_con ‹_› | exact gFSize_con ‹_›), ?_⟩; refine go_ ?_))); refine .inl ⟨_, (by first | exact fi_Check_con e | exact pm_Check_con e | exact gFSize_con e), ?_⟩; refine go_ ?_) | fail)
 all_goals first
  | (cases h <;> (repeat (first | refine g6_ ?_ | (refine .inl ⟨_, (by first | exact fi_Check_con ‹_› | exact pm_Check_con ‹_› | exact gFSize_con ‹_›), ?_⟩; refine go_ ?_))) <;> (first | done | rfl | trivial | (simp; done) | (exfalso; omega)))
  | (exfalso; omega)
  | (
    (with_reducible have h : dl_open.l0 _ _ _ _ _ _ _ _ _ = some (r1, r2, r3, r4) := h)
    repeat (first | refine g6_ ?_ | (refine .inl ⟨_, (by first | exact fi_Check_con ‹_› | exact pm_Check_con ‹_› | exact gFSize_con ‹_›), ?_⟩; refine go_ ?_))
    refine lp [(1, .keep), (24, .row 23 (.sl 3 (.int .i64))), (25, .keep), (26, .keep), (3, .box), (9, .box), (6, .box)] fun X0 hX0 => ?_
    refine go_ ?_
    have key : ∀ k x1 x24 x25 x26 x102000 x102001 x104000 x104001, dl_open.l0 k x1 x24 x25 x26 x102000 x102001 x104000 x104001 = some (r1, r2, r3, r4) → X0 ⟨lkp .bot [(6, .ptr 12 0 []), (9, .ptr 18 0 []), (3, .ptr 6 0 []), (26, .ro (.int .i64) x26), (25, .ro (.int .i64) x25), (24, .ro (.sl 23 (.sl 3 (.int .i64))) x24), (1, .ro (.int .i64) x1)], lkp none [(12, some ⟨87, .pr (.pr (.int .i64) (.pr (.sl 3 (.int .i64)) (.un))) (.un), [(((0 : Int), ([], ())), ())], true⟩), (18, some ⟨87, .pr (.pr (.int .i64) (.pr (.sl 3 (.int .i64)) (.un))) (.un), [((x104000, (x104001, ())), ())], true⟩), (6, some ⟨25, .pr (.int .i64) (.pr (.sl 3 (.int .i64)) (.un)), [(x102000, (x102001, ()))], true⟩)], 0⟩ := by
     refine sind fun k ih0 x1 x24 x25 x26 x102000 x102001 x104000 x104001 h => hX0 _ ?_
     clear hX0
     rcases k with _ | k
     ·cases h
     unfold dl_open.l0 at h
     replace h := hs_ h
     refine go_ ?_
     repeat' (first | split at h | (refine bnf h fun t e h => ?_; (repeat (first | refine g6_ ?_)); refine .inl ⟨_, (by first | exact fi_Check_con e | exact pm_Check_con e | exact gFSize_con e), ?_⟩; refine go_ ?_) | (refine bnf h fun t e h => ?_; (repeat (first | refine g6_ ?_ | (refine .inl ⟨_, (by first | exact fi_Check_con ‹_› | exact pm_Check_con ‹_› | exact gFSize_con ‹_›), ?_⟩; refine go_ ?_))); refine .inl ⟨_, (by first | exact fi_Check_con e | exact pm_Check_con e | exact gFSize_con e), ?_⟩; refine go_ ?_) | fail)
     all_goals (first | ((repeat (first | refine g6_ ?_ | (refine .inl ⟨_, (by first | exact fi_Check_con ‹_› | exact pm_Check_con ‹_› | exact gFSize_con ‹_›), ?_⟩; refine go_ ?_))); exact ih0 _ (by omega) _ _ _ _ _ _ _ _ h) | (cases h <;> (repeat (first | refine g6_ ?_ | (refine .inl ⟨_, (by first | exact fi_Check_con ‹_› | exact pm_Check_con ‹_› | exact gFSize_con ‹_›), ?_⟩; refine go_ ?_))) <;> (first | done | rfl | trivial | (simp; done) | (exfalso; omega))) | (exfalso; omega))
    exact key _ _ _ _ _ _ _ _ _ h)
theorem gFMul_con {k : Nat} {a0_0 : Int} {l0_1 : List Int} {l1 : List Int} {l2 : List Int} {r : List Int} (h : gFMul.f k a0_0 l0_1 l1 l2 = some r) : Con Tryz.prog 61 [⟨.pr (.pr (.int .i64) (.pr (.sl 3 (.int .i64)) (.un))) (.un), ((a0_0, (l0_1, ())), ())⟩, ⟨.sl 3 (.int .i64), l1⟩, ⟨.sl 3 (.int .i64), l2⟩] [(false, ⟨.sl 3 (.int .i64), r⟩)] := by
 refine con_ (ps := [0, 1, 2, 3, 6]) (res := [(6, none)]) ?_ Tryz.func61 Tryz.ntmps61
 refine go_ ?_
 unfold gFMul.f at h
 replace h := hs_ h
 repeat' (first | split at h | (refine bnf h fun t e h => ?_; (repeat (first | refine g6_ ?_)); refine .inl ⟨_, (by first | exact fp_MulMod_con e), ?_⟩; refine go_ ?_) | (refine bnf h fun t e h => ?_; (repeat (first | refine g6_ ?_ | (refine .inl ⟨_, (by first | exact fp_MulMod_con ‹_›), ?_⟩; refine go_ ?_))); refine .inl ⟨_, (by first | exact fp_MulMod_con e), ?_⟩; refine go_ ?_) | fail)
 all_goals (first | (cases h <;> (repeat (first | refine g6_ ?_ | (refine .inl ⟨_, (by first | exact fp_MulMod_con ‹_›), ?_⟩; refine go_ ?_))) <;> (first | done | rfl | trivial | (simp; done) | (exfalso; omega))) | (exfalso; omega))
theorem gFOne_con {a0_0 : Int} {l0_1 : List Int} {r : List Int} (h : gFOne.f a0_0 l0_1 = some r) : Con Tryz.prog 73 [⟨.pr (.pr (.int .i64) (.pr (.sl 3 (.int .i64)) (.un))) (.un), ((a0_0, (l0_1, ())), ())⟩] [(false, ⟨.sl 3 (.int .i64), r⟩)] := by
 refine con_ (ps := [0, 2]) (res := [(2, none)]) ?_ Tryz.func73 Tryz.ntmps73
 refine go_ ?_
 unfold gFOne.f at h
 replace h := hs_ h
 repeat' (first | split at h | fail)
 all_goals (first | (cases h <;> (repeat (first | refine g6_ ?_)) <;> (first | done | rfl | trivial | (simp; done) | (exfalso; omega))) | (exfalso; omega))
theorem gFPow_con {k : Nat} {a0_0 : Int} {l0_1 : List Int} {l1 : List Int} {a2 : Int} {r : List Int} (h : gFPow.f k a0_0 l0_1 l1 a2 = some r) : Con Tryz.prog 60 [⟨.pr (.pr (.int .i64) (.pr (.sl 3 (.int .i64)) (.un))) (.un), ((a0_0, (l0_1, ())), ())⟩, ⟨.sl 3 (.int .i64), l1⟩, ⟨.int .i64, a2⟩] [(false, ⟨.sl 3 (.int .i64), r⟩)] := by
 refine con_ (ps := [0, 1, 2, 3, 6, 7, 11, 16]) (res := [(6, none)]) ?_ Tryz.func60 Tryz.ntmps60
 refine go_ ?_
 unfold gFPow.f at h
 replace h := hs_ h
 repeat' (first | split at h | (refine bnf h fun t e h => ?_; (repeat (first | refine g6_ ?_)); refine .inl ⟨_, (by first | exact gFOne_con e | exact gFMul_con e), ?_⟩; refine go_ ?_) | (refine bnf h fun t e h => ?_; (repeat (first | refine g6_ ?_ | (refine .inl ⟨_, (by first | exact gFOne_con ‹_› | exact gFMul_con ‹_›), ?_⟩; refine go_ ?_))); refine .inl ⟨_, (by first | exact gFOne_con e | exact gFMul_con e), ?_⟩; refine go_ ?_) | fail)
 all_goals first
  | (cases h <;> (repeat (first | refine g6_ ?_ | (refine .inl ⟨_, (by first | exact gFOne_con ‹_› | exact gFMul_con ‹_›), ?_⟩; refine go_ ?_))) <;> (first | done | rfl | trivial | (simp; done) | (exfalso; omega)))
  | (exfalso; omega)
  | (
    (with_reducible have h : gFPow.l0 _ _ _ _ _ _ = some r := h)
    repeat (first | refine g6_ ?_ | (refine .inl ⟨_, (by first | exact gFOne_con ‹_› | exact gFMul_con ‹_›), ?_⟩; refine go_ ?_))
    refine lp [(1, .row 3 (.int .i64)), (2, .keep), (7, .row 3 (.int .i64)), (3, .box)] fun X0 hX0 => ?_
    refine go_ ?_
    have key : ∀ k x1 x2 x7 x102000 x102001, gFPow.l0 k x1 x2 x7 x102000 x102001 = some r → X0 ⟨lkp .bot [(3, .ptr 6 0 []), (7, .ro (.sl 3 (.int .i64)) x7), (2, .ro (.int .i64) x2), (1, .ro (.sl 3 (.int .i64)) x1)], lkp none [(6, some ⟨87, .pr (.pr (.int .i64) (.pr (.sl 3 (.int .i64)) (.un))) (.un), [((x102000, (x102001, ())), ())], true⟩)], 0⟩ := by
     refine sind fun k ih0 x1 x2 x7 x102000 x102001 h => hX0 _ ?_
     clear hX0
     rcases k with _ | k
     ·cases h
     unfold gFPow.l0 at h
     replace h := hs_ h
     refine go_ ?_
     repeat' (first | split at h | (refine bnf h fun t e h => ?_; (repeat (first | refine g6_ ?_)); refine .inl ⟨_, (by first | exact gFOne_con e | exact gFMul_con e), ?_⟩; refine go_ ?_) | (refine bnf h fun t e h => ?_; (repeat (first | refine g6_ ?_ | (refine .inl ⟨_, (by first | exact gFOne_con ‹_› | exact gFMul_con ‹_›), ?_⟩; refine go_ ?_))); refine .inl ⟨_, (by first | exact gFOne_con e | exact gFMul_con e), ?_⟩; refine go_ ?_) | fail)
     all_goals (first | ((repeat (first | refine g6_ ?_ | (refine .inl ⟨_, (by first | exact gFOne_con ‹_› | exact gFMul_con ‹_›), ?_⟩; refine go_ ?_))); exact ih0 _ (by omega) _ _ _ _ _ h) | (cases h <;> (repeat (first | refine g6_ ?_ | (refine .inl ⟨_, (by first | exact gFOne_con ‹_› | exact gFMul_con ‹_›), ?_⟩; refine go_ ?_))) <;> (first | done | rfl | trivial | (simp; done) | (exfalso; omega))) | (exfalso; omega))
    exact key _ _ _ _ _ _ h)
theorem api_ModPoly_int_66_con {k : Nat} {l0 : List Int} {l1 : List Int} {r : Bool} (h : api_ModPoly_int_66.f k l0 l1 = some r) : Con Tryz.prog 66 [⟨.sl 3 (.int .i64), l0⟩, ⟨.sl 3 (.int .i64), l1⟩] [(false, ⟨.bool, r⟩)] := by
 refine con_ (ps := [0, 1, 4, 5, 10, 12, 13, 14, 24]) (res := [(4, none)]) ?_ Tryz.func66 Tryz.ntmps66
 refine go_ ?_
 unfold api_ModPoly_int_66.f at h
 replace h := hs_ h
 repeat' (first | split at h | fail)
 all_goals first
  | (cases h <;> (repeat (first | refine g6_ ?_)) <;> (first | done | rfl | trivial | (simp; done) | (exfalso; omega)))
  | (exfalso; omega)
  | (
    (with_reducible have h : api_ModPoly_int_66.l0 _ _ _ _ _ = some r := h)
    repeat (first | refine g6_ ?_)
    refine lp [(0, .row 3 (.int .i64)), (1, .row 3 (.int .i64)), (12, .keep), (13, .keep)] fun X0 hX0 => ?_
    refine go_ ?_
    have key : ∀ k x0 x1 x12 x13, api_ModPoly_int_66.l0 k x0 x1 x12 x13 = some r → X0 ⟨lkp .bot [(13, .ro (.int .i64) x13), (12, .ro (.int .i64) x12), (1, .ro (.sl 3 (.int .i64)) x1), (0, .ro (.sl 3 (.int .i64)) x0)], lkp none [], 0⟩ := by
     refine sind fun k ih0 x0 x1 x12 x13 h => hX0 _ ?_
     clear hX0
     rcases k with _ | k
     ·cases h
     unfold api_ModPoly_int_66.l0 at h
     replace h := hs_ h
     refine go_ ?_
     repeat' (first | split at h | fail)
     all_goals (first | ((repeat (first | refine g6_ ?_)); exact ih0 _ (by omega) _ _ _ _ h) | (cases h <;> (repeat (first | refine g6_ ?_)) <;> (first | done | rfl | trivial | (simp; done) | (exfalso; omega))) | (exfalso; omega))
    exact key _ _ _ _ _ h)
theorem rs_Factor_con {k : Nat} {a0 : Int} {r1 : List S134} {r2 : Int} (h : rs_Factor.f k a0 = some (r1, r2)) : Con Tryz.prog 105 [⟨.int .i64, a0⟩] [(false, ⟨.sl 134 (.pr (.int .i64) (.pr (.int .i64) (.un))), (List.map (fun s : S134 => (s.f0, (s.f1, ()))) r1)⟩), (false, ⟨.int .i64, r2⟩)] := by
 refine con_ (ps := [0, 2, 3, 6]) (res := [(2, none), (3, none)]) ?_ Tryz.func105 Tryz.ntmps105
 refine go_ ?_
 unfold rs_Factor.f at h
 replace h := hs_ h
 repeat' (first | split at h | (refine bnf h fun t e h => ?_; (repeat (first | refine g6_ ?_)); refine .inl ⟨_, (by first | exact rs_bad_con e | exact rs_factor_con e), ?_⟩; refine go_ ?_) | (refine bnf h fun t e h => ?_; (repeat (first | refine g6_ ?_ | (refine .inl ⟨_, (by first | exact rs_bad_con ‹_› | exact rs_factor_con ‹_›), ?_⟩; refine go_ ?_))); refine .inl ⟨_, (by first | exact rs_bad_con e | exact rs_factor_con e), ?_⟩; refine go_ ?_) | fail)
 all_goals (first | (cases h <;> (repeat (first | refine g6_ ?_ | (refine .inl ⟨_, (by first | exact rs_bad_con ‹_› | exact rs_factor_con ‹_›), ?_⟩; refine go_ ?_))) <;> (first | done | rfl | trivial | (simp; done) | (exfalso; omega))) | (exfalso; omega))
theorem gf_IsOne_con {l0 : List Int} {r : Bool} (h : gf_IsOne.f l0 = some r) : Con Tryz.prog 106 [⟨.sl 3 (.int .i64), l0⟩] [(false, ⟨.bool, r⟩)] := by
 refine con_ (ps := [0, 2]) (res := [(2, none)]) ?_ Tryz.func106 Tryz.ntmps106
 refine go_ ?_
 unfold gf_IsOne.f at h
 replace h := hs_ h
 repeat' (first | split at h | fail)
 all_goals (first | (cases h <;> (repeat (first | refine g6_ ?_)) <;> (first | done | rfl | trivial | (simp; done) | (exfalso; omega))) | (exfalso; omega))
end Go.Proofs.YtillaipaanancaaGreat.Q
end

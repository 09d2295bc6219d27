/- Code of functions as the interpreter has it prepared, cut at loops. -/
import Derived.Test.YtaljcpoopmedmaaMc1
namespace Go.Proofs.Ytaljcpoopmedmaa.Ev
open Go Go.RowKit
set_option linter.unusedVariables false
set_option maxRecDepth 100000
def sq1_fk : IC := (.seq (.region [(.mk .none (.p (.mv (.g 0))) .none), (.mk .none (.p (.mv (.g 16))) .none), (.mk .none (.a (.load 7 true (.g 17))) .none), (.mk .none (.a (.call 49 [(.l 2), (.l 1), (.l 0)])) .none), (.mk (.some 4) (.p (.mv (.l 0))) .none)]) (.seq (.region [(.mk .none (.p (.mv (.g 0))) .none), (.mk .none (.a (.load 7 true (.g 17))) .none), (.mk .none (.a (.call 49 [(.l 1), (.c (.s (.int .i64 0))), (.l 0)])) .none), (.mk (.some 3) (.p (.mv (.l 0))) .none)]) (.seq (.region [(.mk .none (.p (.mv (.g 0))) .none), (.mk .none (.p (.mv (.g 8))) .none), (.mk .none (.p (.mv (.g 5))) .none), (.mk .none (.p (.mv (.g 4))) .none), (.mk .none (.p (.mv (.g 3))) .none), (.mk .none (.a (.bslice 3 1 [(.int .i64 0), (.int .i64 0)] 2 [(0, (1, (.l 1))), (1, (1, (.l 0)))])) .none), (.mk .none (.a (.call 48 [(.l 5), (.l 4), (.l 3), (.l 0)])) .none)]) (.region [(.mk .none (.p (.mv (.g 0))) .none), (.mk .none (.p (.mv (.g 0))) .none), (.mk .none (.p (.nchk (.l 0))) .none), (.mk .none (.p (.fld 5 (.l 0))) .none), (.mk .none (.a (.load 1 false (.l 0))) .none), (.mk .none (.p (.mv (.g 2))) .none), (.mk .none (.p (.slice 1 (.l 1) .none (.some (.l 0)))) .none), (.mk .none (.a (.app 3 1 8 (.c (.s .nilSlice)) (.l 0))) .none), (.mk .none (.p (.nchk (.l 7))) .none), (.mk .none (.p (.fld 5 (.l 0))) .none), (.mk .none (.a (.store 1 (.l 0) (.l 2))) .none)]))))
def sq2_fk : IC := (.seq (.block 1 (.seq (.region [(.mk .none (.p (.mv (.g 12))) .none), (.mk .none (.p (.ixs 1 (.g 9) (.g 12))) .none), (.mk .none (.a (.load 1 false (.l 0))) .none), (.mk (.some 7) (.p (.mv (.l 2))) .none), (.mk (.some 8) (.p (.mv (.l 1))) .none)]) (.seq (.region [(.mk .none (.p (.mv (.g 0))) .none), (.mk .none (.p (.mv (.g 8))) .none), (.mk .none (.p (.nchk (.l 1))) .none), (.mk .none (.p (.fld 4 (.l 0))) .none), (.mk .none (.a (.store 1 (.l 0) (.l 2))) .none)]) (.seq (.region [(.mk .none (.p (.fld 2 (.g 17))) .none), (.mk .none (.a (.load 1 false (.l 0))) .none), (.mk .none (.p (.bin .add (.l 0) (.c (.s (.int .i64 1))))) .none), (.mk .none (.p (.fld 2 (.g 17))) .none), (.mk .none (.a (.store 1 (.l 0) (.l 1))) .none)]) (.seq (.seq (.region [(.mk .none (.p (.mv (.g 7))) .none), (.mk .none (.p (.bin .eq (.l 0) (.c (.s (.int .i64 0))))) .none), (.mk .none (.p (.mv (.l 0))) .none), (.mk .none (.p (.fld 6 (.g 17))) (.some (0, false))), (.mk .none (.a (.load 1 false (.l 0))) (.some (1, false))), (.mk .none (.a (.call 26 [(.l 0), (.c (.s (.int .i64 2)))])) (.some (2, false))), (.mk .none (.p (.bin .eq (.l 0) (.c (.s (.int .i64 1))))) (.some (3, false))), (.mk (.some 6) (.p (.pick (.l 4) (.c (.s (.bool true))) (.l 0))) .none)]) (.cond (.g 6) (.seq (.region [(.mk .none (.p (.fld 1 (.g 17))) .none), (.mk .none (.a (.load 1 false (.l 0))) .none), (.mk .none (.p (.bin .add (.l 0) (.c (.s (.int .i64 1))))) .none), (.mk .none (.p (.fld 1 (.g 17))) .none), (.mk .none (.a (.store 1 (.l 0) (.l 1))) .none)]) (.region [(.mk .none (.p (.mv (.g 0))) .none), (.mk .none (.a (.load 7 true (.g 17))) .none), (.mk .none (.a (.call 32 [(.l 1), (.l 0)])) .none)])) .skip)) sq1_fk))))) (.region [(.mk .none (.p (.bin .add (.g 12) (.c (.s (.int .i64 1))))) .none), (.mk (.some 12) (.p (.mv (.l 0))) .none)]))
def lp1_fk : IC := (.seq (.region [(.mk (.some 10) (.p (.bin .lt (.g 12) (.g 11))) .none)]) (.seq (.cond (.g 10) .skip (.exit 0)) sq2_fk))
def bd_fk : IC := (.seq (.region [(.mk (.some 17) (.a (.box 72 (.g 1))) .none)]) (.seq (.region [(.mk .none (.p (.fld 4 (.g 17))) .none), (.mk .none (.a (.load 1 false (.l 0))) .none), (.mk .none (.a (.call 26 [(.l 0), (.c (.s (.int .i64 2)))])) .none), (.mk (.some 16) (.p (.mv (.l 0))) .none)]) (.seq (.region [(.mk .none (.p (.mv (.g 0))) .none), (.mk .none (.a (.load 7 true (.g 17))) .none), (.mk .none (.a (.call 32 [(.l 1), (.l 0)])) .none)]) (.seq (.region [(.mk .none (.p (.mv (.g 0))) .none), (.mk .none (.p (.nchk (.l 0))) .none), (.mk .none (.p (.fld 4 (.l 0))) .none), (.mk .none (.a (.load 1 false (.l 0))) .none), (.mk (.some 15) (.p (.mv (.l 0))) .none)]) (.seq (.region [(.mk .none (.p (.mv (.g 0))) .none), (.mk .none (.p (.nchk (.l 0))) .none), (.mk .none (.p (.fld 5 (.l 0))) .none), (.mk .none (.a (.load 1 false (.l 0))) .none), (.mk .none (.p (.len (.l 0))) .none), (.mk (.some 2) (.p (.mv (.l 0))) .none)]) (.seq (.region [(.mk .none (.p (.mv (.g 0))) .none), (.mk .none (.a (.call 29 [(.l 0), (.c (.s .nilSlice))])) .none), (.mk (.some 14) (.p (.mv (.l 0))) .none)]) (.seq (.region [(.mk .none (.p (.mv (.g 0))) .none), (.mk .none (.a (.call 29 [(.l 0), (.c (.s .nilSlice))])) .none), (.mk (.some 13) (.p (.mv (.l 0))) .none)]) (.seq (.region [(.mk .none (.p (.mv (.g 0))) .none), (.mk .none (.p (.mv (.g 16))) .none), (.mk .none (.a (.bslice 3 1 [(.int .i64 0), (.int .i64 0)] 2 [(0, (1, (.l 0))), (1, (1, (.c (.s (.int .i64 0)))))])) .none), (.mk .none (.a (.call 29 [(.l 2), (.l 0)])) .none), (.mk (.some 5) (.p (.mv (.l 0))) .none)]) (.seq (.region [(.mk .none (.p (.mv (.g 0))) .none), (.mk .none (.p (.mv (.g 15))) .none), (.mk .none (.p (.mv (.g 14))) .none), (.mk .none (.a (.call 48 [(.l 2), (.l 1), (.l 0), (.c (.s .nilSlice))])) .none)]) (.seq (.region [(.mk .none (.p (.mv (.g 0))) .none), (.mk .none (.p (.mv (.g 15))) .none), (.mk .none (.p (.mv (.g 13))) .none), (.mk .none (.a (.call 48 [(.l 2), (.l 1), (.l 0), (.c (.s .nilSlice))])) .none)]) (.seq (.seq (.region [(.mk .none (.p (.mv (.g 14))) .none), (.mk .none (.p (.mv (.g 13))) .none), (.mk (.some 9) (.a (.bslice 3 1 [(.int .i64 0), (.int .i64 0)] 2 [(0, (1, (.l 1))), (1, (1, (.l 0)))])) .none), (.mk (.some 11) (.p (.len (.l 0))) .none), (.mk (.some 12) (.p (.mv (.c (.s (.int .i64 0))))) .none)]) (.block 0 (.loop lp1_fk))) (.seq (.region [(.mk .none (.p (.mv (.g 0))) .none), (.mk .none (.p (.mv (.g 5))) .none), (.mk .none (.p (.nchk (.l 1))) .none), (.mk .none (.p (.fld 4 (.l 0))) .none), (.mk .none (.a (.store 1 (.l 0) (.l 2))) .none)]) (.draw [((.mk .none (.p (.mv (.g 0))) .none), .none), ((.mk .none (.p (.mv (.g 0))) .none), .none), ((.mk .none (.p (.nchk (.l 0))) .none), .none), ((.mk .none (.p (.fld 5 (.l 0))) .none), .none), ((.mk .none (.a (.load 1 false (.l 0))) .none), (.some [])), ((.mk .none (.p (.mv (.g 0))) .none), .none), ((.mk .none (.p (.nchk (.l 0))) .none), .none), ((.mk .none (.p (.fld 2 (.l 0))) .none), .none), ((.mk .none (.p (.fld 1 (.l 0))) .none), .none), ((.mk .none (.a (.load 1 false (.l 0))) .none), (.some [4])), ((.mk .none (.p (.mv (.g 5))) .none), .none), ((.mk .none (.p (.ixs 3 (.l 1) (.l 0))) .none), .none), ((.mk .none (.p (.fld 0 (.l 0))) .none), .none), ((.mk .none (.a (.load 1 false (.l 0))) .none), (.some [8])), ((.mk .none (.a (.app 3 1 8 (.l 9) (.l 0))) .none), .none), ((.mk .none (.p (.nchk (.l 14))) .none), .none), ((.mk .none (.p (.fld 5 (.l 0))) .none), .none), ((.mk .none (.a (.store 1 (.l 0) (.l 2))) .none), .none)])))))))))))))
theorem T_fk : T 30 = some (.mk bd_fk 2 16 []) := by kernel_rfl
end Go.Proofs.Ytaljcpoopmedmaa.Ev

/- The builders of functions: a fork: the end of a way. -/
namespace Go.Proofs.Ytaljcpoopmedmaa.Ev
open Go Go.RowKit Go.Proofs.Ytaljcpoopmedmaa.Ms
attribute [local go_sem] LD_head_callk zkH_some contH_hide W_skip W_ret W_exit W_seq W_block LW_cond zcO_bool W_region W_draw WO_nil LO_pure zpO_some LO_call zkO_some contO_eq LO_guard zgO_bool zgO_undef zmO_some WD_nil LD_pure zpD_some zmD_some LD_call zkD_some contD_eq LD_guard zgD_bool zgD_undef LD_head_pure zhpD_some LD_head_load zhlD_some LD_head_bslice zhaD_some zhbD_some thenQ_normal thenQ_exit thenQ_ret blkQ_normal blkQ_exit blkQ_ret loopQ_normal loopQ_exit loopQ_ret LO_new LO_box LO_bslice LO_mkslice LO_load LO_store LO_app LO_copy LO_clear LO_mkmap LO_look LO_mupd LO_slicea LO_boxc LD_new LD_box LD_bslice LD_mkslice LD_load LD_store LD_app LD_copy LD_clear LD_mkmap LD_look LD_mupd LD_slicea LD_boxc ev_l ev_g ev_c evs_nil evs_cons lget_zero lget_succ lset_zero lset_succ putD_none putD_some undefs_zero undefs_succ ob_s ob_n oif_ite svc_s svc_undef vInt_int vBool_bool sInt_int sBool_bool cel_s cel_agg mkAV_f mkAV_t celA_s celA_agg ltake_zero ltake_succ ldrop_zero ldrop_succ ldrop_nil llen_nil llen_cons lover_nil lover_cons loverAt_zero loverAt_succ nbeq_refl nbeq_eq nble_eq Lp_mm mmV_min mmV_max pop_mv Lp_pick pickO_bool pop_build fill_nil fill_cons Lp_bin binV_some pop_not pop_neg Lp_fld fldV_ptr fldV_cp pop_fval Lp_ext extO_tup mk1_some Lp_nchk nchkV_ptr nchkV_cp pop_conv pop_mkfun ptrs_nil ptrs_cons capAVs_nil capAVs_cons sPtrC_ptr sPtrC_cp sPtr_ptr Lp_len lenO_some lenV_nil lenV_lst lenV_slice numS_64 bin_add bin_sub bin_mul bin_quo_pos bin_rem_pos bin_shr_pos bin_eq bin_ne bin_lt bin_le bin_gt bin_ge Lp_ixs ixsO_some Lp_ixa ixaO_some Lr_one re1_f re1_t Lr_tmp reT_s reT_agg Lr_cell reP_some reC_ptr outP_some Lret_normal Lret_ret resAll_nil resAll_cons result_nil Lr_two re2_some ok_eq rdB_arr wrB_arr La_load loadO_ptr loadO_cp ldR_t ldR_f La_store stR_some La_mkslice mksO_some La_app appO_some bsO_some boxO_s boxO_agg fpV_ptr fpV_cp sel_nil sel_cons inHid_nil' inHid_cons' LV_ptr LV_cp mkL_t mkL_f Int.cast_ofNat_Int Int.natCast_zero Int.natCast_one decide_eq_true_eq decide_eq_false_iff_not Bool.false_eq_true and_true true_and List.cons_append List.nil_append reduceCtorEq decide_true decide_false Bool.not_true Bool.not_false Nat.add_zero Nat.zero_add Option.some.injEq Bool.true_eq_false not_true_eq_false not_false_eq_true Hp.next_push Hp.next_put Nat.add_assoc self_add add_self ixsV_slice1 ixaV_ptr ixaV_cp ixaV_ptr0 ixaV_ptr1 ixaV_cp0 ixaV_cp1 hid_ok get_hide La_bslice La_box aop_new storeO_s storeO_agg get_push get_put mksV_two ixsV_slice0 ixsV_slice Int.reduceToNat Nat.reduceAdd Nat.reduceMul Nat.reduceEqDiff Int.reduceEq Int.reduceLT Int.reduceLE Int.reduceNeg Int.reduceAdd Int.reduceSub Int.reduceMul Int.reduceNe
set_option linter.unusedVariables false
set_option linter.unusedSimpArgs false
set_option linter.unusedSectionVars false
set_option maxRecDepth 100000
set_option maxHeartbeats 2000000
theorem FS.refl {h : Hp} {p : Nat} {w : Ms} {ns : List Nat} (ok : Ok h) (mr : MR tt h p w ns) : FS h h p w ns [] ns := ⟨ok, mr, Mv.refl ok, by simp⟩
theorem no2 {f : FuncId} (h1 : S1 f = false) (h2 : Nat.beq f qBlock.f = false) {vs : List AV} {h : Hp} : fnsX F2 f vs h = none := (BX_low h2).trans ((PX_low h1).trans F0_X)
theorem lay_grow (w : Ms) (p : Pc) : w.known.length ≤ (layS w p).known.length ∧ (layS w p).blocks.length = w.blocks.length := by
  obtain ⟨cs, h1, h2, h3⟩ := instrS_w w p
  refine ⟨?_, ?_⟩
  · show _ ≤ ((instrS w p).2.known ++ _).length
    rw [h3]; simp
  · show (addInstr (instrS w p).2.blocks _ _).length = _
    unfold addInstr; rw [List.length_modify, h3]
theorem newest_grow (w : Ms) (c : Nat) (p : Pc) : w.known.length ≤ (newestS w c p).2.known.length ∧ (newestS w c p).2.blocks.length = w.blocks.length := by
  unfold newestS
  split
  · exact ⟨Nat.le_refl _, rfl⟩
  · exact lay_grow _ _
theorem edge_grow (w : Ms) (k to : Nat) (l : List Nat) : (edgeS w k to l).known = w.known ∧ (edgeS w k to l).blocks.length = w.blocks.length := by
  unfold edgeS
  exact ⟨rfl, by simp⟩
theorem Wok.setcur {w : Ms} {N j : Nat} (wk : Wok w N) (h : j < w.blocks.length) : Wok { w with cur := j } N := ⟨wk.m1, wk.m2, wk.vals, wk.known, h, wk.nv, wk.nb, wk.nk, wk.ni, wk.na⟩
theorem Wok.take {w : Ms} {N j : Nat} (wk : Wok w N) : Wok { w with known := w.known.take j } N := ⟨wk.m1, wk.m2, wk.vals, fun v hv => wk.known v (List.mem_of_mem_take hv), wk.cur, wk.nv, wk.nb, by have := wk.nk; simp; omega, wk.ni, wk.na⟩
theorem inc_w64 {a : Int} (h1 : -9223372036854775808 ≤ a) (h2 : a ≤ 9223372036854775807) : w64 (a + 1) = inc a := by
  unfold inc
  split
  · rename_i h; subst h; rfl
  · exact w64_ok (by omega) (by omega)
theorem inc_in {a : Int} (h1 : -9223372036854775808 ≤ a) (h2 : a ≤ 9223372036854775807) : -9223372036854775808 ≤ inc a ∧ inc a ≤ 9223372036854775807 := by
  unfold inc
  split <;> omega
theorem Wok.new {w : Ms} {N : Nat} (wk : Wok w N) (cls : Nat) (p : Pc) : Wok (newestS w cls p).2 (N + 10) := Wok.newest base2 wk cls p
/-- what a way's end leaves -/
def tailS (w : Ms) (cls before e k : Nat) (q : Pc) : Ms :=
  let v := newestS w cls q
  let z := newestS v.2 0 q
  let w := edgeS z.2 k e [v.1, z.1]
  { w with known := w.known.take before }
theorem Wok.tail {w : Ms} {N : Nat} (wk : Wok w N) (cls before e k : Nat) (q : Pc) : Wok (tailS w cls before e k q) (N + 21) :=
  ((((wk.new cls q).new 0 q).edge k e _).take)
theorem fk_tail {h0 hi : Hp} {p bx : Nat} {w : Ms} {ns ns' : List Nat} {L : List (Nat × AB)} {q : Pc} (K : FS h0 hi p w ns ((bx, .arr (encP q) 72) :: L) ns') (hL : ∀ r ∈ L, r.1 ≠ bx) (hpos : 1 ≤ h0.next) {N : Nat} (wk : Wok w N) (hN : N ≤ 70000) (pin : Pin q) {cls before e k : Nat} (hc : cls < 2) (hk : k < w.blocks.length) (hb1 : 1 ≤ before) (hb2 : before ≤ w.known.length)
    {x1 x3 x4 x6 x7 x9 x10 x11 x12 x13 x14 x15 : AV} {Q : Ex → St → Prop} (hQ : ∀ hj ns'' x3 x4, FS h0 hj p (tailS w cls before e k q) ns ((bx, .arr (encP q) 72) :: L) ns'' → Q .normal (.mk [.s (.ptr p 0), x1, vi before, x3, x4, vi e, x6, x7, vi k, x9, x10, x11, x12, x13, x14, x15, vi cls, .s (.ptr bx 0)] hj)) :
    W F2 sq1_fk (.mk [.s (.ptr p 0), x1, vi before, x3, x4, vi e, x6, x7, vi k, x9, x10, x11, x12, x13, x14, x15, vi cls, .s (.ptr bx 0)] hi) Q := by
  unfold sq1_fk
  have g1 := newest_grow w cls q
  have ok1 := K.ok
  have hx1 : hi.get bx = some (.arr (encP q) 72) := (K.kp _ (List.mem_cons_self ..)).1
  unfold encP at hx1
  simp (maxSteps := 1000000) (disch := first | omega | assumption | (simp only [List.length_cons, List.length_nil, Nat.reduceAdd]; done) | (simp only [inHid_nil']; done) | ((repeat (first | apply Ok_push | apply Ok_put)); assumption)) only [go_sem, ↓reduceIte, hx1]
  refine WC.imp (fs_newest K wk (by omega) hc (pc := q) pin) ?_
  rintro _ h2 ⟨rfl, ns2, K2⟩
  have wk2 := wk.new cls q
  have g2 := newest_grow (newestS w cls q).2 0 q
  have ok2 := K2.ok
  have hx2 : h2.get bx = some (.arr (encP q) 72) := (K2.kp _ (List.mem_cons_self ..)).1
  unfold encP at hx2
  simp (maxSteps := 1000000) (disch := first | omega | assumption | (simp only [List.length_cons, List.length_nil, Nat.reduceAdd]; done) | (simp only [inHid_nil']; done) | ((repeat (first | apply Ok_push | apply Ok_put)); assumption)) only [go_sem, ↓reduceIte, hx2]
  refine WC.imp (fs_newest K2 wk2 (by omega) (cls := 0) (by omega) (pc := q) pin) ?_
  rintro _ h3 ⟨rfl, ns3, K3⟩
  have wk3 := wk2.new 0 q
  have ok3 := K3.ok
  simp (maxSteps := 1000000) (disch := first | omega | assumption | (simp only [List.length_cons, List.length_nil, Nat.reduceAdd]; done) | (simp only [inHid_nil']; done) | ((repeat (first | apply Ok_push | apply Ok_put)); assumption)) only [go_sem, ↓reduceIte]
  have K4 := K3.push (a := .arr [si ((newestS w cls q).1 : Nat), si ((newestS (newestS w cls q).2 0 q).1 : Nat)] 3)
  refine WC.imp (fs_edge2 K4 (fun r hr => by have := (K3.kp r hr).2.2.1; omega) hpos wk3 (by omega) (a := k) (to := e) (by omega)) ?_
  rintro _ h5 ⟨rfl, ns5, K5⟩
  have wk5 := wk3.edge k e [(newestS w cls q).1, (newestS (newestS w cls q).2 0 q).1]
  have ok5 := K5.ok
  have g5 := edge_grow (newestS (newestS w cls q).2 0 q).2 k e [(newestS w cls q).1, (newestS (newestS w cls q).2 0 q).1]
  obtain ⟨a, b, c, x, y, h6, ns6, hg, e1, e2, ok6, hp6, K6⟩ := K5.take hb1 (by rw [g5.1]; omega) (by have := wk5.nk; omega)
  have hg6 := hp6.trans hg
  simp (maxSteps := 1000000) (disch := first | omega | assumption | (simp only [List.length_cons, List.length_nil, Nat.reduceAdd]; done) | (simp only [inHid_nil']; done) | ((repeat (first | apply Ok_push | apply Ok_put)); assumption)) only [go_sem, ↓reduceIte, hg, e1, e2, hg6, pop_slice_hi]
  exact hQ _ _ _ _ K6
end Go.Proofs.Ytaljcpoopmedmaa.Ev

/- The builders of functions: a fork: a way. -/
namespace Go.Proofs.Ytaljcpoopmedmaa.Ev
open Go Go.RowKit Go.Proofs.Ytaljcpoopmedmaa.Ms
attribute [local go_sem] LD_head_callk zkH_some contH_hide W_skip W_ret W_exit W_seq W_block LW_cond zcO_bool W_region W_draw WO_nil LO_pure zpO_some LO_call zkO_some contO_eq LO_guard zgO_bool zgO_undef zmO_some WD_nil LD_pure zpD_some zmD_some LD_call zkD_some contD_eq LD_guard zgD_bool zgD_undef LD_head_pure zhpD_some LD_head_load zhlD_some LD_head_bslice zhaD_some zhbD_some thenQ_normal thenQ_exit thenQ_ret blkQ_normal blkQ_exit blkQ_ret loopQ_normal loopQ_exit loopQ_ret LO_new LO_box LO_bslice LO_mkslice LO_load LO_store LO_app LO_copy LO_clear LO_mkmap LO_look LO_mupd LO_slicea LO_boxc LD_new LD_box LD_bslice LD_mkslice LD_load LD_store LD_app LD_copy LD_clear LD_mkmap LD_look LD_mupd LD_slicea LD_boxc ev_l ev_g ev_c evs_nil evs_cons lget_zero lget_succ lset_zero lset_succ putD_none putD_some undefs_zero undefs_succ ob_s ob_n oif_ite svc_s svc_undef vInt_int vBool_bool sInt_int sBool_bool cel_s cel_agg mkAV_f mkAV_t celA_s celA_agg ltake_zero ltake_succ ldrop_zero ldrop_succ ldrop_nil llen_nil llen_cons lover_nil lover_cons loverAt_zero loverAt_succ nbeq_refl nbeq_eq nble_eq Lp_mm mmV_min mmV_max pop_mv Lp_pick pickO_bool pop_build fill_nil fill_cons Lp_bin binV_some pop_not pop_neg Lp_fld fldV_ptr fldV_cp pop_fval Lp_ext extO_tup mk1_some Lp_nchk nchkV_ptr nchkV_cp pop_conv pop_mkfun ptrs_nil ptrs_cons capAVs_nil capAVs_cons sPtrC_ptr sPtrC_cp sPtr_ptr Lp_len lenO_some lenV_nil lenV_lst lenV_slice numS_64 bin_add bin_sub bin_mul bin_quo_pos bin_rem_pos bin_shr_pos bin_eq bin_ne bin_lt bin_le bin_gt bin_ge Lp_ixs ixsO_some Lp_ixa ixaO_some Lr_one re1_f re1_t Lr_tmp reT_s reT_agg Lr_cell reP_some reC_ptr outP_some Lret_normal Lret_ret resAll_nil resAll_cons result_nil Lr_two re2_some ok_eq rdB_arr wrB_arr La_load loadO_ptr loadO_cp ldR_t ldR_f La_store stR_some La_mkslice mksO_some La_app appO_some bsO_some boxO_s boxO_agg fpV_ptr fpV_cp sel_nil sel_cons inHid_nil' inHid_cons' LV_ptr LV_cp mkL_t mkL_f Int.cast_ofNat_Int Int.natCast_zero Int.natCast_one decide_eq_true_eq decide_eq_false_iff_not Bool.false_eq_true and_true true_and List.cons_append List.nil_append reduceCtorEq decide_true decide_false Bool.not_true Bool.not_false Nat.add_zero Nat.zero_add Option.some.injEq Bool.true_eq_false not_true_eq_false not_false_eq_true Hp.next_push Hp.next_put Nat.add_assoc self_add add_self ixsV_slice1 ixaV_ptr ixaV_cp ixaV_ptr0 ixaV_ptr1 ixaV_cp0 ixaV_cp1 hid_ok get_hide La_bslice La_box aop_new storeO_s storeO_agg get_push get_put mksV_two ixsV_slice0 ixsV_slice Int.reduceToNat Nat.reduceAdd Nat.reduceMul Nat.reduceEqDiff Int.reduceEq Int.reduceLT Int.reduceLE Int.reduceNeg Int.reduceAdd Int.reduceSub Int.reduceMul Int.reduceNe
set_option linter.unusedVariables false
set_option linter.unusedSimpArgs false
set_option linter.unusedSectionVars false
set_option maxRecDepth 100000
set_option maxHeartbeats 2000000
theorem Pin.incA {q : Pc} (pin : Pin q) : Pin { q with a := inc q.a } := ⟨pin.kind, pin.op, inc_in pin.a.1 pin.a.2, pin.b, pin.c, pin.limits, pin.flags⟩
theorem Pin.incO {q : Pc} (pin : Pin q) : Pin { q with op := inc q.op } := ⟨pin.kind, inc_in pin.op.1 pin.op.2, pin.a, pin.b, pin.c, pin.limits, pin.flags⟩
theorem fk_step {h0 hi : Hp} {p bx b9 k0 k1 : Nat} {w : Ms} {ns ns' : List Nat} {q : Pc} (K : FS h0 hi p w ns [(bx, .arr (encP q) 72), (b9, .arr [si (k0 : Nat), si (k1 : Nat)] 3)] ns') (hb : b9 ≠ bx) (hpos : 1 ≤ h0.next) {N : Nat} (wk : Wok w N) (hN : N ≤ 60000) (pin : Pin q) {cls before e k i : Nat} (hi2 : i < 2) (hget : [k0, k1][i]? = some k) (hc : cls < 2) (hk : k < w.blocks.length) (hb1 : 1 ≤ before) (hb2 : before ≤ w.known.length)
    {x1 x3 x4 x6 x7 x8 x10 x13 x14 x15 : AV} {Q : Ex → St → Prop} (hQ : ∀ hj ns'' x3 x4 x6 x7 x8 x10, FS h0 hj p (wayS q cls before e k (decide (i = 0 ∨ pk q.flags 2 = 1)) w).2 ns [(bx, .arr (encP (wayS q cls before e k (decide (i = 0 ∨ pk q.flags 2 = 1)) w).1) 72), (b9, .arr [si (k0 : Nat), si (k1 : Nat)] 3)] ns'' → W F2 lp1_fk.loop (.mk [.s (.ptr p 0), x1, vi before, x3, x4, vi e, x6, x7, x8, .s (.slice b9 0 2 2 true 1), x10, vi 2, vi (i + 1 : Nat), x13, x14, x15, vi cls, .s (.ptr bx 0)] hj) Q) :
    W F2 lp1_fk.loop (.mk [.s (.ptr p 0), x1, vi before, x3, x4, vi e, x6, x7, x8, .s (.slice b9 0 2 2 true 1), x10, vi 2, vi i, x13, x14, x15, vi cls, .s (.ptr bx 0)] hi) Q := by
  rw [W_loop]
  unfold lp1_fk
  have hlt : (i : Int) < 2 := by omega
  have kx := K.kp _ (List.mem_cons_self ..)
  have k9 := K.kp (b9, .arr [si (k0 : Nat), si (k1 : Nat)] 3) (by simp)
  obtain ⟨ob1, orow, oms, oe1, oe2, oe3, ⟨rfl, rfl⟩, oe5, oe6⟩ := (Sl_two k9.1).at hget
  obtain rfl := List.mem_singleton.1 oe6
  obtain ⟨a, b, c, hg, kl, bl⟩ := K.cells
  have ok := K.ok
  have hp := K.mr.lt p (by obtain ⟨⟨_, _, _, _, _, _, _, _, _, _, e⟩, _, _⟩ := K.mr; simp [e])
  have hpm : p ∈ ns' := by obtain ⟨⟨_, _, _, _, _, _, _, _, _, _, e⟩, _, _⟩ := K.mr; simp [e]
  have hbp : bx ≠ p := fun e => kx.2.2.2 (e ▸ hpm)
  have K1 := K.setcur (j := k) hg
  have wk1 := wk.setcur hk
  obtain ⟨hA, eA⟩ : ∃ hA, hA = hi.put p (some (.arr [si w.m.1, si w.m.2, a, b, si k, c, si w.all] tt.mas)) := ⟨_, rfl⟩
  rw [← eA] at K1
  have K2 := K1.put (a' := .arr (encP { q with a := inc q.a }) 72) (fun r hr => by obtain rfl := List.mem_singleton.1 hr; exact hb) hpos
  obtain ⟨hB, eB⟩ : ∃ hB, hB = hA.put bx (some (.arr (encP { q with a := inc q.a }) 72)) := ⟨_, rfl⟩
  rw [← eB] at K2
  have K3 := K2.put (a' := .arr (encP { q with a := inc q.a, op := inc q.op }) 72) (fun r hr => by obtain rfl := List.mem_singleton.1 hr; exact hb) hpos
  obtain ⟨hC, eC⟩ : ∃ hC, hC = hB.put bx (some (.arr (encP { q with a := inc q.a, op := inc q.op }) 72)) := ⟨_, rfl⟩
  rw [← eC] at K3
  have okA := K1.ok
  have okB := K2.ok
  have okC := K3.ok
  have xA := (K1.kp _ (List.mem_cons_self ..)).1
  have xB := (K2.kp _ (List.mem_cons_self ..)).1
  have xC := (K3.kp _ (List.mem_cons_self ..)).1
  have hx := kx.1
  unfold encP at xA xB xC hx
  have eA' : hi.put p (some (.arr [si w.m.1, si w.m.2, a, b, si k, c, si w.all] tt.mas)) = hA := eA.symm
  have eB' : hA.put bx (some (.arr [si q.kind, si q.op, si (inc q.a), si q.b, si q.c, si q.limits, si q.flags] 72)) = hB := eB.symm
  have eC' : hB.put bx (some (.arr [si q.kind, si (inc q.op), si (inc q.a), si q.b, si q.c, si q.limits, si q.flags] 72)) = hC := eC.symm
  have ha := inc_w64 pin.a.1 pin.a.2
  have ho := inc_w64 pin.op.1 pin.op.2
  obtain ⟨⟨q1, q2⟩, ⟨q3, q4⟩, ⟨q5, q6⟩, ⟨q7, q8⟩, ⟨q9, q10⟩, ⟨q11, q12⟩, ⟨q13, q14⟩⟩ := id pin
  have hsucc : ((i : Int) + 1) = ((i + 1 : Nat) : Int) := by omega
  simp (maxSteps := 1000000) (disch := first | omega | assumption | (simp only [List.length_cons, List.length_nil, Nat.reduceAdd]; done) | (simp only [inHid_nil']; done) | ((repeat (first | apply Ok_push | apply Ok_put)); assumption)) only [go_sem, ↓reduceIte, eq_true hlt]
  unfold sq2_fk
  by_cases hi0 : i = 0
  · have hi0' : (i : Int) = 0 := by omega
    have hdec : decide (i = 0 ∨ pk q.flags 2 = 1) = true := by simp [hi0]
    rw [hdec] at hQ
    simp (maxSteps := 1000000) (disch := first | omega | assumption | (simp only [List.length_cons, List.length_nil, Nat.reduceAdd]; done) | (simp only [inHid_nil']; done) | ((repeat (first | apply Ok_push | apply Ok_put)); assumption)) only [go_sem, ↓reduceIte, oe1, oe2, hg, eA', xA, ha, eB', xB, ho, eC', xC, eq_true hi0']
    refine WC.imp (fs_lay K3 wk1 (by omega) (pc := { q with a := inc q.a, op := inc q.op }) pin.incA.incO) ?_
    rintro _ h2 ⟨rfl, ns2, K4⟩
    have g4 := lay_grow { w with cur := k } { q with a := inc q.a, op := inc q.op }
    have wk4 := wk1.lay { q with a := inc q.a, op := inc q.op }
    simp (maxSteps := 1000000) (disch := first | omega | assumption | (simp only [List.length_cons, List.length_nil, Nat.reduceAdd]; done) | (simp only [inHid_nil']; done) | ((repeat (first | apply Ok_push | apply Ok_put)); assumption)) only [go_sem, ↓reduceIte]
    refine fk_tail K4 (fun r hr => by obtain rfl := List.mem_singleton.1 hr; exact hb) hpos wk4 (by omega) pin.incA.incO hc (by rw [g4.2]; exact hk) hb1 (Nat.le_trans hb2 g4.1) (fun hj ns'' y3 y4 K5 => ?_)
    simp (maxSteps := 1000000) (disch := first | omega | assumption | (simp only [List.length_cons, List.length_nil, Nat.reduceAdd]; done) | (simp only [inHid_nil']; done) | ((repeat (first | apply Ok_push | apply Ok_put)); assumption)) only [go_sem, ↓reduceIte, w64_ok, hsucc]
    exact hQ hj ns'' _ _ _ _ _ _ K5
  · have hi0' : ¬ (i : Int) = 0 := by omega
    by_cases hf : pk q.flags 2 = 1
    · have hf' : ((pk q.flags 2 : Nat) : Int) = 1 := by omega
      have hdec : decide (i = 0 ∨ pk q.flags 2 = 1) = true := by simp [hf]
      rw [hdec] at hQ
      simp (maxSteps := 1000000) (disch := first | omega | assumption | (simp only [List.length_cons, List.length_nil, Nat.reduceAdd]; done) | (simp only [inHid_nil']; done) | ((repeat (first | apply Ok_push | apply Ok_put)); assumption)) only [go_sem, ↓reduceIte, pkl_2, pkl_3, pkl_4, pkl_6, pkl_9, pkl_256, pkl_1073741824, pkl_1099511627776, WC_picked base2, oe1, oe2, hg, eA', xA, ha, eB', xB, ho, eC', xC, eq_false hi0', eq_true hf']
      refine WC.imp (fs_lay K3 wk1 (by omega) (pc := { q with a := inc q.a, op := inc q.op }) pin.incA.incO) ?_
      rintro _ h2 ⟨rfl, ns2, K4⟩
      have g4 := lay_grow { w with cur := k } { q with a := inc q.a, op := inc q.op }
      have wk4 := wk1.lay { q with a := inc q.a, op := inc q.op }
      simp (maxSteps := 1000000) (disch := first | omega | assumption | (simp only [List.length_cons, List.length_nil, Nat.reduceAdd]; done) | (simp only [inHid_nil']; done) | ((repeat (first | apply Ok_push | apply Ok_put)); assumption)) only [go_sem, ↓reduceIte]
      refine fk_tail K4 (fun r hr => by obtain rfl := List.mem_singleton.1 hr; exact hb) hpos wk4 (by omega) pin.incA.incO hc (by rw [g4.2]; exact hk) hb1 (Nat.le_trans hb2 g4.1) (fun hj ns'' y3 y4 K5 => ?_)
      simp (maxSteps := 1000000) (disch := first | omega | assumption | (simp only [List.length_cons, List.length_nil, Nat.reduceAdd]; done) | (simp only [inHid_nil']; done) | ((repeat (first | apply Ok_push | apply Ok_put)); assumption)) only [go_sem, ↓reduceIte, w64_ok, hsucc]
      exact hQ hj ns'' _ _ _ _ _ _ K5
    · have hf' : ¬ ((pk q.flags 2 : Nat) : Int) = 1 := by omega
      have hdec : decide (i = 0 ∨ pk q.flags 2 = 1) = false := by simp [hf, hi0]
      rw [hdec] at hQ
      simp (maxSteps := 1000000) (disch := first | omega | assumption | (simp only [List.length_cons, List.length_nil, Nat.reduceAdd]; done) | (simp only [inHid_nil']; done) | ((repeat (first | apply Ok_push | apply Ok_put)); assumption)) only [go_sem, ↓reduceIte, pkl_2, pkl_3, pkl_4, pkl_6, pkl_9, pkl_256, pkl_1073741824, pkl_1099511627776, WC_picked base2, oe1, oe2, hg, eA', xA, ha, eB', xB, eq_false hi0', eq_false hf']
      refine fk_tail K2 (fun r hr => by obtain rfl := List.mem_singleton.1 hr; exact hb) hpos wk1 (by omega) pin.incA hc hk hb1 hb2 (fun hj ns'' y3 y4 K5 => ?_)
      simp (maxSteps := 1000000) (disch := first | omega | assumption | (simp only [List.length_cons, List.length_nil, Nat.reduceAdd]; done) | (simp only [inHid_nil']; done) | ((repeat (first | apply Ok_push | apply Ok_put)); assumption)) only [go_sem, ↓reduceIte, w64_ok, hsucc]
      exact hQ hj ns'' _ _ _ _ _ _ K5
end Go.Proofs.Ytaljcpoopmedmaa.Ev

/- The builders of functions: a fork. -/
namespace Go.Proofs.Ytaljcpoopmedmaa.Ev
open Go Go.RowKit Go.Proofs.Ytaljcpoopmedmaa.Ms
attribute [local go_sem] LD_head_callk zkH_some contH_hide W_skip W_ret W_exit W_seq W_block LW_cond zcO_bool W_region W_draw WO_nil LO_pure zpO_some LO_call zkO_some contO_eq LO_guard zgO_bool zgO_undef zmO_some WD_nil LD_pure zpD_some zmD_some LD_call zkD_some contD_eq LD_guard zgD_bool zgD_undef LD_head_pure zhpD_some LD_head_load zhlD_some LD_head_bslice zhaD_some zhbD_some thenQ_normal thenQ_exit thenQ_ret blkQ_normal blkQ_exit blkQ_ret loopQ_normal loopQ_exit loopQ_ret LO_new LO_box LO_bslice LO_mkslice LO_load LO_store LO_app LO_copy LO_clear LO_mkmap LO_look LO_mupd LO_slicea LO_boxc LD_new LD_box LD_bslice LD_mkslice LD_load LD_store LD_app LD_copy LD_clear LD_mkmap LD_look LD_mupd LD_slicea LD_boxc ev_l ev_g ev_c evs_nil evs_cons lget_zero lget_succ lset_zero lset_succ putD_none putD_some undefs_zero undefs_succ ob_s ob_n oif_ite svc_s svc_undef vInt_int vBool_bool sInt_int sBool_bool cel_s cel_agg mkAV_f mkAV_t celA_s celA_agg ltake_zero ltake_succ ldrop_zero ldrop_succ ldrop_nil llen_nil llen_cons lover_nil lover_cons loverAt_zero loverAt_succ nbeq_refl nbeq_eq nble_eq Lp_mm mmV_min mmV_max pop_mv Lp_pick pickO_bool pop_build fill_nil fill_cons Lp_bin binV_some pop_not pop_neg Lp_fld fldV_ptr fldV_cp pop_fval Lp_ext extO_tup mk1_some Lp_nchk nchkV_ptr nchkV_cp pop_conv pop_mkfun ptrs_nil ptrs_cons capAVs_nil capAVs_cons sPtrC_ptr sPtrC_cp sPtr_ptr Lp_len lenO_some lenV_nil lenV_lst lenV_slice numS_64 bin_add bin_sub bin_mul bin_quo_pos bin_rem_pos bin_shr_pos bin_eq bin_ne bin_lt bin_le bin_gt bin_ge Lp_ixs ixsO_some Lp_ixa ixaO_some Lr_one re1_f re1_t Lr_tmp reT_s reT_agg Lr_cell reP_some reC_ptr outP_some Lret_normal Lret_ret resAll_nil resAll_cons result_nil Lr_two re2_some ok_eq rdB_arr wrB_arr La_load loadO_ptr loadO_cp ldR_t ldR_f La_store stR_some La_mkslice mksO_some La_app appO_some bsO_some boxO_s boxO_agg fpV_ptr fpV_cp sel_nil sel_cons inHid_nil' inHid_cons' LV_ptr LV_cp mkL_t mkL_f Int.cast_ofNat_Int Int.natCast_zero Int.natCast_one decide_eq_true_eq decide_eq_false_iff_not Bool.false_eq_true and_true true_and List.cons_append List.nil_append reduceCtorEq decide_true decide_false Bool.not_true Bool.not_false Nat.add_zero Nat.zero_add Option.some.injEq Bool.true_eq_false not_true_eq_false not_false_eq_true Hp.next_push Hp.next_put Nat.add_assoc self_add add_self ixsV_slice1 ixaV_ptr ixaV_cp ixaV_ptr0 ixaV_ptr1 ixaV_cp0 ixaV_cp1 hid_ok get_hide La_bslice La_box aop_new storeO_s storeO_agg get_push get_put mksV_two ixsV_slice0 ixsV_slice Int.reduceToNat Nat.reduceAdd Nat.reduceMul Nat.reduceEqDiff Int.reduceEq Int.reduceLT Int.reduceLE Int.reduceNeg Int.reduceAdd Int.reduceSub Int.reduceMul Int.reduceNe
set_option linter.unusedVariables false
set_option linter.unusedSimpArgs false
set_option linter.unusedSectionVars false
set_option maxRecDepth 100000
set_option maxHeartbeats 2000000
theorem way_1 (q : Pc) (cls before e k : Nat) (lay : Bool) (w : Ms) : (wayS q cls before e k lay w).1 = if lay then { q with a := inc q.a, op := inc q.op } else { q with a := inc q.a } := by cases lay <;> rfl
theorem way_2 (q : Pc) (cls before e k : Nat) (lay : Bool) (w : Ms) : (wayS q cls before e k lay w).2 = tailS (if lay then layS { w with cur := k } { q with a := inc q.a, op := inc q.op } else { w with cur := k }) cls before e k (if lay then { q with a := inc q.a, op := inc q.op } else { q with a := inc q.a }) := by cases lay <;> rfl
theorem way_pin {q : Pc} (pin : Pin q) (cls before e k : Nat) (lay : Bool) (w : Ms) : Pin (wayS q cls before e k lay w).1 := by
  rw [way_1]; split
  · exact pin.incA.incO
  · exact pin.incA
theorem tail_len {w : Ms} {cls before e k : Nat} {q : Pc} (h : before ≤ w.known.length) : (tailS w cls before e k q).known.length = before ∧ (tailS w cls before e k q).blocks.length = w.blocks.length := by
  have g1 := newest_grow w cls q
  have g2 := newest_grow (newestS w cls q).2 0 q
  have g5 := edge_grow (newestS (newestS w cls q).2 0 q).2 k e [(newestS w cls q).1, (newestS (newestS w cls q).2 0 q).1]
  refine ⟨?_, ?_⟩
  · show ((edgeS _ _ _ _).known.take before).length = _
    rw [g5.1, List.length_take]; omega
  · show (edgeS _ _ _ _).blocks.length = _
    rw [g5.2, g2.2, g1.2]
theorem way_len {q : Pc} {cls before e k : Nat} {lay : Bool} {w : Ms} (h : before ≤ w.known.length) : (wayS q cls before e k lay w).2.known.length = before ∧ (wayS q cls before e k lay w).2.blocks.length = w.blocks.length := by
  rw [way_2]
  cases lay with
  | true =>
    have g := lay_grow { w with cur := k } { q with a := inc q.a, op := inc q.op }
    have := tail_len (w := layS { w with cur := k } { q with a := inc q.a, op := inc q.op }) (cls := cls) (before := before) (e := e) (k := k) (q := { q with a := inc q.a, op := inc q.op }) (Nat.le_trans h g.1)
    simp only [if_true]
    exact ⟨this.1, this.2.trans g.2⟩
  | false => exact tail_len (w := { w with cur := k }) h
theorem Wok.way {w : Ms} {N : Nat} (wk : Wok w N) (q : Pc) (cls before e k : Nat) (lay : Bool) (hk : k < w.blocks.length) : Wok (wayS q cls before e k lay w).2 (N + 31) := by
  rw [way_2]
  cases lay with
  | true => exact ((wk.setcur hk).lay { q with a := inc q.a, op := inc q.op }).tail cls before e k _
  | false =>
    have := (wk.setcur hk).tail cls before e k { q with a := inc q.a }
    exact ⟨this.m1, this.m2, this.vals, this.known, this.cur, Nat.le_trans this.nv (by omega), Nat.le_trans this.nb (by omega), Nat.le_trans this.nk (by omega), fun b hb => by have := this.ni b hb; omega, Nat.le_trans this.na (by omega)⟩
/-- a block's own values -/
def pr (w : Ms) (j : Nat) : Option (List Nat) := (w.blocks[j]?).map (·.params)
theorem pr_mod {l : List Blk} {k j : Nat} {f : Blk → Blk} (hf : ∀ b, (f b).params = b.params) : ((l.modify k f)[j]?).map (·.params) = (l[j]?).map (·.params) := by
  rw [List.getElem?_modify]
  split
  · cases l[j]? with
    | none => rfl
    | some b => exact congrArg some (hf b)
  · simp
theorem pr_lay (w : Ms) (p : Pc) (j : Nat) : pr (layS w p) j = pr w j := by
  obtain ⟨cs, h1, h2, h3⟩ := instrS_w w p
  show ((addInstr (instrS w p).2.blocks _ _)[j]?).map (·.params) = _
  unfold addInstr
  rw [pr_mod (f := fun b : Blk => { b with instrs := b.instrs ++ [(instrS w p).1] }) (fun _ => rfl), h3]
  rfl
theorem pr_newest (w : Ms) (c : Nat) (p : Pc) (j : Nat) : pr (newestS w c p).2 j = pr w j := by
  unfold newestS
  split
  · rfl
  · exact pr_lay _ _ _
theorem pr_edge (w : Ms) (k to : Nat) (l : List Nat) (j : Nat) : pr (edgeS w k to l) j = pr w j := pr_mod (fun _ => rfl)
theorem pr_tail (w : Ms) (cls before e k : Nat) (q : Pc) (j : Nat) : pr (tailS w cls before e k q) j = pr w j := (pr_edge _ _ _ _ j).trans ((pr_newest _ _ _ j).trans (pr_newest _ _ _ j))
theorem pr_way (q : Pc) (cls before e k : Nat) (lay : Bool) (w : Ms) (j : Nat) : pr (wayS q cls before e k lay w).2 j = pr w j := by
  rw [way_2, pr_tail]
  cases lay with
  | true => exact pr_lay _ _ _
  | false => rfl
theorem fork_ok {h : Hp} {p : Nat} {w : Ms} {ns : List Nat} (ok : Ok h) (mr : MR tt h p w ns) {N : Nat} (wk : Wok w N) (hN : N ≤ 50000) (pc : Pc) (pin : Pin pc) :
    WC F2 30 [.s (.ptr p 0), .agg (encP pc)] h (fun v h' => v = .tup [] ∧ ∃ ns', MR tt h' p (forkS w pc) ns' ∧ Mv h h' ns ns') := by
  refine WC_run (no2 rfl rfl) T_fk rfl ?_
  unfold bd_fk
  have hpos := ok.pos
  have K0 := (FS.refl ok mr).push (a := .arr (encP pc) 72)
  have hx0 := (K0.kp _ (List.mem_cons_self ..)).1
  obtain ⟨bx, ebx⟩ : ∃ bx, h.next = bx := ⟨_, rfl⟩
  simp only [ebx] at K0 hx0
  have hl := pk_lt (n := pc.c) (m := 2) (by omega)
  have ok0 := K0.ok
  obtain ⟨⟨q1, q2⟩, ⟨q3, q4⟩, ⟨q5, q6⟩, ⟨q7, q8⟩, ⟨q9, q10⟩, ⟨q11, q12⟩, ⟨q13, q14⟩⟩ := id pin
  obtain ⟨hA, eA⟩ : ∃ hA, h.push (AB.arr (encP pc) 72) = hA := ⟨_, rfl⟩
  rw [eA] at K0 hx0 ok0
  unfold encP at eA hx0
  simp (maxSteps := 1000000) (disch := first | omega | assumption | (simp only [List.length_cons, List.length_nil, Nat.reduceAdd]; done) | (simp only [inHid_nil']; done) | ((repeat (first | apply Ok_push | apply Ok_put)); assumption)) only [go_sem, ↓reduceIte, pkl_2, pkl_3, pkl_4, pkl_6, pkl_9, pkl_256, pkl_1073741824, pkl_1099511627776, WC_picked base2, encP, eA, hx0, ebx]
  refine WC.imp (fs_lay K0 wk (by omega) (pc := pc) pin) ?_
  rintro _ h1 ⟨rfl, ns1, K1⟩
  have wk1 := wk.lay pc
  have gl := lay_grow w pc
  have hne := lay_known (w := w) (p := pc)
  obtain ⟨w1, e1⟩ : ∃ w1, w1 = layS w pc := ⟨_, rfl⟩
  rw [← e1] at K1 wk1 gl hne
  have hlen1 : 1 ≤ w1.known.length := List.length_pos_iff.2 hne
  obtain ⟨a, b, c, hg, kl, bl⟩ := K1.cells
  have ok1 := K1.ok
  simp (maxSteps := 1000000) (disch := first | omega | assumption | (simp only [List.length_cons, List.length_nil, Nat.reduceAdd]; done) | (simp only [inHid_nil']; done) | ((repeat (first | apply Ok_push | apply Ok_put)); assumption)) only [go_sem, ↓reduceIte, hg, kl]
  refine WC.imp (fs_block0 K1 wk1 (by omega)) ?_
  rintro _ h2 ⟨rfl, ns2, K2⟩
  have wk2 := wk1.block [] (by simp) (by simp)
  have ok2 := K2.ok
  simp (maxSteps := 1000000) (disch := first | omega | assumption | (simp only [List.length_cons, List.length_nil, Nat.reduceAdd]; done) | (simp only [inHid_nil']; done) | ((repeat (first | apply Ok_push | apply Ok_put)); assumption)) only [go_sem, ↓reduceIte]
  refine WC.imp (fs_block0 K2 wk2 (by omega)) ?_
  rintro _ h3 ⟨rfl, ns3, K3⟩
  have wk3 := wk2.block [] (by simp) (by simp)
  have ok3 := K3.ok
  simp (maxSteps := 1000000) (disch := first | omega | assumption | (simp only [List.length_cons, List.length_nil, Nat.reduceAdd]; done) | (simp only [inHid_nil']; done) | ((repeat (first | apply Ok_push | apply Ok_put)); assumption)) only [go_sem, ↓reduceIte]
  have K3' := K3.push (a := .arr [si (pk pc.c 2 : Nat), si (0 : Nat)] 3)
  refine WC.imp (fs_block2 K3' wk3 (by omega) (by omega)) ?_
  rintro _ h4 ⟨rfl, ns4, K4⟩
  have wk4 := wk3.block [pk pc.c 2, 0] (by simp) (by simp; omega)
  have ok4 := K4.ok
  simp (maxSteps := 1000000) (disch := first | omega | assumption | (simp only [List.length_cons, List.length_nil, Nat.reduceAdd]; done) | (simp only [inHid_nil']; done) | ((repeat (first | apply Ok_push | apply Ok_put)); assumption)) only [go_sem, ↓reduceIte]
  have b1 : (blockS w1 []).blocks.length = w1.blocks.length + 1 := by simp [blockS]
  have b2 : (blockS (blockS w1 []) []).blocks.length = w1.blocks.length + 2 := by simp [blockS]
  have b3 : (blockS (blockS (blockS w1 []) []) [pk pc.c 2, 0]).blocks.length = w1.blocks.length + 3 := by simp [blockS]
  have p3 : pr (blockS (blockS (blockS w1 []) []) [pk pc.c 2, 0]) (w1.blocks.length + 2) = some (List.range' (w1.values.length) 2) := by
    unfold pr blockS
    simp
  have hcur := wk1.cur
  rw [b1, b2]
  have v3 : (blockS (blockS (blockS w1 []) []) [pk pc.c 2, 0]).known = w1.known := rfl
  generalize e4 : blockS (blockS (blockS w1 []) []) [pk pc.c 2, 0] = w4 at *
  refine WC.imp (fs_edge0 K4 wk4 (by omega) (a := w1.cur) (to := w1.blocks.length) (by omega)) ?_
  rintro _ h5 ⟨rfl, ns5, K5⟩
  have wk5 := wk4.edge w1.cur w1.blocks.length []
  have g5 := edge_grow w4 w1.cur w1.blocks.length []
  have ok5 := K5.ok
  simp (maxSteps := 1000000) (disch := first | omega | assumption | (simp only [List.length_cons, List.length_nil, Nat.reduceAdd]; done) | (simp only [inHid_nil']; done) | ((repeat (first | apply Ok_push | apply Ok_put)); assumption)) only [go_sem, ↓reduceIte]
  refine WC.imp (fs_edge0 K5 wk5 (by omega) (a := w1.cur) (to := w1.blocks.length + 1) (by omega)) ?_
  rintro _ h6 ⟨rfl, ns6, K6⟩
  have wk6 := wk5.edge w1.cur (w1.blocks.length + 1) []
  have g6 := edge_grow (edgeS w4 w1.cur w1.blocks.length []) w1.cur (w1.blocks.length + 1) []
  have p6 : pr (edgeS (edgeS w4 w1.cur w1.blocks.length []) w1.cur (w1.blocks.length + 1) []) (w1.blocks.length + 2) = some (List.range' (w1.values.length) 2) := by rw [pr_edge, pr_edge, p3]
  have ok6 := K6.ok
  obtain ⟨w6, e6⟩ : ∃ w6, w6 = edgeS (edgeS w4 w1.cur w1.blocks.length []) w1.cur (w1.blocks.length + 1) [] := ⟨_, rfl⟩
  rw [← e6] at K6 wk6 g6 p6
  simp (maxSteps := 1000000) (disch := first | omega | assumption | (simp only [List.length_cons, List.length_nil, Nat.reduceAdd]; done) | (simp only [inHid_nil']; done) | ((repeat (first | apply Ok_push | apply Ok_put)); assumption)) only [go_sem, ↓reduceIte]
  have K7 := (K6.push (a := .arr [si (w1.blocks.length : Nat), si (w1.blocks.length + 1 : Nat)] 3)).sub (L' := [(bx, .arr (encP pc) 72), (h6.next, .arr [si (w1.blocks.length : Nat), si (w1.blocks.length + 1 : Nat)] 3)]) (by simp)
  have hb : h6.next ≠ bx := by have := (K6.kp _ (List.mem_cons_self ..)).2.2.1; simp only at this; omega
  have hkn : w6.known.length = w1.known.length := by rw [g6.1, g5.1, v3]
  refine fk_step K7 hb hpos wk6 (by omega) pin (i := 0) (k := w1.blocks.length) (by omega) rfl hl (by omega) hlen1 (by omega) (fun hj ns7 x3 x4 x6 x7 x8 x10 K8 => ?_)
  have d0 : decide (0 = 0 ∨ pk pc.flags 2 = 1) = true := by simp
  rw [d0] at K8
  have l8 := way_len (q := pc) (cls := pk pc.c 2) (before := w1.known.length) (e := w1.blocks.length + 2) (k := w1.blocks.length) (lay := true) (w := w6) (by omega)
  have wk8 := wk6.way pc (pk pc.c 2) w1.known.length (w1.blocks.length + 2) w1.blocks.length true (by omega)
  have pn8 := way_pin pin (pk pc.c 2) w1.known.length (w1.blocks.length + 2) w1.blocks.length true w6
  have p8 := (pr_way pc (pk pc.c 2) w1.known.length (w1.blocks.length + 2) w1.blocks.length true w6 (w1.blocks.length + 2)).trans p6
  have f8 : (wayS pc (pk pc.c 2) w1.known.length (w1.blocks.length + 2) w1.blocks.length true w6).1.flags = pc.flags := rfl
  obtain ⟨x, ex⟩ : ∃ x, x = wayS pc (pk pc.c 2) w1.known.length (w1.blocks.length + 2) w1.blocks.length true w6 := ⟨_, rfl⟩
  rw [← ex] at K8 l8 wk8 pn8 p8 f8
  refine fk_step K8 hb hpos wk8 (by omega) pn8 (i := 1) (k := w1.blocks.length + 1) (by omega) rfl hl (by omega) hlen1 (by omega) (fun hj9 ns9 y3 y4 y6 y7 y8 y10 K9 => ?_)
  have d1 : decide (1 = 0 ∨ pk x.1.flags 2 = 1) = decide (pk pc.flags 2 = 1) := by rw [f8]; simp
  rw [d1] at K9
  have l9 := way_len (q := x.1) (cls := pk pc.c 2) (before := w1.known.length) (e := w1.blocks.length + 2) (k := w1.blocks.length + 1) (lay := decide (pk pc.flags 2 = 1)) (w := x.2) (by omega)
  have wk9 := wk8.way x.1 (pk pc.c 2) w1.known.length (w1.blocks.length + 2) (w1.blocks.length + 1) (decide (pk pc.flags 2 = 1)) (by omega)
  have p9 := (pr_way x.1 (pk pc.c 2) w1.known.length (w1.blocks.length + 2) (w1.blocks.length + 1) (decide (pk pc.flags 2 = 1)) x.2 (w1.blocks.length + 2)).trans p8
  obtain ⟨y, ey⟩ : ∃ y, y = wayS x.1 (pk pc.c 2) w1.known.length (w1.blocks.length + 2) (w1.blocks.length + 1) (decide (pk pc.flags 2 = 1)) x.2 := ⟨_, rfl⟩
  rw [← ey] at K9 l9 wk9 p9
  rw [W_loop]
  unfold lp1_fk
  have ok9 := K9.ok
  obtain ⟨a9, b9, c9, hg9, kl9, bl9⟩ := K9.cells
  have K10 := K9.setcur (j := w1.blocks.length + 2) hg9
  obtain ⟨h10, e10⟩ : ∃ h10, hj9.put p (some (.arr [si y.2.m.1, si y.2.m.2, a9, b9, si (w1.blocks.length + 2 : Nat), c9, si y.2.all] tt.mas)) = h10 := ⟨_, rfl⟩
  rw [e10] at K10
  obtain ⟨blk, hblk, hpar⟩ := Option.map_eq_some_iff.1 p9
  have hblk' : ({ y.2 with cur := w1.blocks.length + 2 } : Ms).blocks[w1.blocks.length + 2]? = some blk := hblk
  have hnk9 := wk9.nk
  obtain ⟨a, b, c, bb, pp, z, h11, ns11, hg10, ix, rd1, e11, ok11, hp11, K11⟩ := K10.params hblk' (by rw [hpar]; simp) (by rw [hpar]; simp; omega)
  have hg11 := hp11.trans hg10
  have ok10 := K10.ok
  simp (maxSteps := 1000000) (disch := first | omega | assumption | (simp only [List.length_cons, List.length_nil, Nat.reduceAdd]; done) | (simp only [inHid_nil']; done) | ((repeat (first | apply Ok_push | apply Ok_put)); assumption)) only [go_sem, ↓reduceIte, hg9, e10, hg10, ix, rd1, e11, hg11]
  have hfin : forkS w pc = { y.2 with cur := w1.blocks.length + 2, known := y.2.known ++ blk.params } := by
    have h1 : forkS w pc = { y.2 with cur := w1.blocks.length + 2, known := y.2.known ++ (y.2.blocks.getD (w1.blocks.length + 2) ⟨[], [], []⟩).params } := by
      subst ey ex e6 e4 e1
      rfl
    rw [h1, List.getD_eq_getElem?_getD, hblk, Option.getD_some]
  rw [hfin]
  exact ⟨_, K11.mr, K11.mv⟩
end Go.Proofs.Ytaljcpoopmedmaa.Ev

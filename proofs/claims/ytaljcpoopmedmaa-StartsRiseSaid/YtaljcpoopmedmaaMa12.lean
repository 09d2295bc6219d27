/- The builders of functions: an edge more. -/
import Derived.Test.YtaljcpoopmedmaaMa10
namespace Go.Proofs.Ytaljcpoopmedmaa.Ev
open Go Go.RowKit Go.Proofs.Ytaljcpoopmedmaa.Ms
attribute [local go_sem] LD_head_callk zkH_some contH_hide W_skip W_ret W_exit W_seq W_block LW_cond zcO_bool W_region W_draw WO_nil LO_pure zpO_some LO_call zkO_some contO_eq LO_guard zgO_bool zgO_undef zmO_some WD_nil LD_pure zpD_some zmD_some LD_call zkD_some contD_eq LD_guard zgD_bool zgD_undef LD_head_pure zhpD_some LD_head_load zhlD_some LD_head_bslice zhaD_some zhbD_some thenQ_normal thenQ_exit thenQ_ret blkQ_normal blkQ_exit blkQ_ret loopQ_normal loopQ_exit loopQ_ret LO_new LO_box LO_bslice LO_mkslice LO_load LO_store LO_app LO_copy LO_clear LO_mkmap LO_look LO_mupd LO_slicea LO_boxc LD_new LD_box LD_bslice LD_mkslice LD_load LD_store LD_app LD_copy LD_clear LD_mkmap LD_look LD_mupd LD_slicea LD_boxc ev_l ev_g ev_c evs_nil evs_cons lget_zero lget_succ lset_zero lset_succ putD_none putD_some undefs_zero undefs_succ ob_s ob_n oif_ite svc_s svc_undef vInt_int vBool_bool sInt_int sBool_bool cel_s cel_agg mkAV_f mkAV_t celA_s celA_agg ltake_zero ltake_succ ldrop_zero ldrop_succ ldrop_nil llen_nil llen_cons lover_nil lover_cons loverAt_zero loverAt_succ nbeq_refl nbeq_eq nble_eq Lp_mm mmV_min mmV_max pop_mv Lp_pick pickO_bool pop_build fill_nil fill_cons Lp_bin binV_some pop_not pop_neg Lp_fld fldV_ptr fldV_cp pop_fval Lp_ext extO_tup mk1_some Lp_nchk nchkV_ptr nchkV_cp pop_conv pop_mkfun ptrs_nil ptrs_cons capAVs_nil capAVs_cons sPtrC_ptr sPtrC_cp sPtr_ptr Lp_len lenO_some lenV_nil lenV_lst lenV_slice numS_64 bin_add bin_sub bin_mul bin_quo_pos bin_rem_pos bin_shr_pos bin_eq bin_ne bin_lt bin_le bin_gt bin_ge Lp_ixs ixsO_some Lp_ixa ixaO_some Lr_one re1_f re1_t Lr_tmp reT_s reT_agg Lr_cell reP_some reC_ptr outP_some Lret_normal Lret_ret resAll_nil resAll_cons result_nil Lr_two re2_some ok_eq rdB_arr wrB_arr La_load loadO_ptr loadO_cp ldR_t ldR_f La_store stR_some La_mkslice mksO_some La_app appO_some bsO_some boxO_s boxO_agg fpV_ptr fpV_cp sel_nil sel_cons inHid_nil' inHid_cons' LV_ptr LV_cp mkL_t mkL_f Int.cast_ofNat_Int Int.natCast_zero Int.natCast_one decide_eq_true_eq decide_eq_false_iff_not Bool.false_eq_true and_true true_and List.cons_append List.nil_append reduceCtorEq decide_true decide_false Bool.not_true Bool.not_false Nat.add_zero Nat.zero_add Option.some.injEq Bool.true_eq_false not_true_eq_false not_false_eq_true Hp.next_push Hp.next_put Nat.add_assoc self_add add_self ixsV_slice1 ixaV_ptr ixaV_cp ixaV_ptr0 ixaV_ptr1 ixaV_cp0 ixaV_cp1 hid_ok get_hide La_bslice La_box aop_new storeO_s storeO_agg get_push get_put mksV_two ixsV_slice0 ixsV_slice Int.reduceToNat Nat.reduceAdd Nat.reduceMul Nat.reduceEqDiff Int.reduceEq Int.reduceLT Int.reduceLE Int.reduceNeg Int.reduceAdd Int.reduceSub Int.reduceMul Int.reduceNe
set_option linter.unusedVariables false
set_option linter.unusedSimpArgs false
set_option linter.unusedSectionVars false
set_option maxRecDepth 100000
set_option maxHeartbeats 2000000
theorem Wok.edge {w : Ms} {N : Nat} (wk : Wok w N) (k to : Nat) (args : List Nat) : Wok (edgeS w k to args) (N + 1) := by
  unfold edgeS
  refine ⟨wk.m1, wk.m2, wk.vals, wk.known, by show w.cur < (w.blocks.modify k _).length; rw [List.length_modify]; exact wk.cur, Nat.le_succ_of_le wk.nv, by show (w.blocks.modify k _).length ≤ _; rw [List.length_modify]; exact Nat.le_succ_of_le wk.nb, Nat.le_succ_of_le wk.nk, fun b hb => ?_, Nat.le_succ_of_le wk.na⟩
  have hb' : b ∈ w.blocks.modify k (fun b => { b with edges := b.edges ++ [⟨to, args⟩] }) := hb
  rcases Nat.lt_or_ge k w.blocks.length with h1 | h1
  · rw [modify_to_set (List.getElem?_eq_getElem h1)] at hb'
    rcases List.mem_or_eq_of_mem_set hb' with h | rfl
    · have := wk.ni b h; omega
    · have := wk.ni _ (List.getElem_mem h1)
      simp only [List.length_append, List.length_singleton]; omega
  · rw [List.modify_eq_self h1] at hb'
    have := wk.ni b hb'; omega
section
variable {F : Fns} (B : Base F)
include B
theorem edge_ok {h2 : Hp} {p : Nat} {w2 : Ms} {ns : List Nat} (ok2 : Ok h2) (mr2 : MR tt h2 p w2 ns) {N : Nat} (wk2 : Wok w2 N) (hN : N ≤ 80000) {kk to : Nat} {args : List Nat} {sa : SV} {n1 : List Nat} (hkk : kk < w2.blocks.length) (hsa : Sl h2 3 1 true EI sa args n1) (nd1 : n1.Nodup) (lo1 : ∀ n ∈ n1, 1 ≤ n ∧ n < h2.next ∧ n ∉ ns) :
    WC F 48 [.s (.ptr p 0), vi kk, vi to, .s sa] h2 (fun v h' => v = .tup [] ∧ ∃ ns', MR tt h' p (edgeS w2 kk to args) ns' ∧ Mv h2 h' (ns ++ n1) ns') := by
  refine WC_run (B.no 48 (by simp) _ _) ((B.T _).trans T_medge) rfl ?_
  unfold bd_medge
  obtain ⟨⟨av, bv, kv, m1, m2, m3, hg, hv, hb, hk, rfl⟩, hd, hlt⟩ := mr2
  have hp := hlt p (by simp)
  obtain ⟨blk, hblk⟩ : ∃ b, w2.blocks[kk]? = some b := ⟨_, List.getElem?_eq_getElem hkk⟩
  have hni := wk2.ni blk (List.mem_of_getElem? hblk)
  obtain ⟨bb, row, ms, M1, M2, cells, ix, hbg, hrd, hrl, ⟨pp, ia, ee, na, nb, nc, rfl, sp, sI, sE, rfl⟩, rfl, hset⟩ := hb.upd hblk
  have rd1 := rdB_field (j := 2) (c := ee) hrd rfl
  have hbb := hlt bb (by simp)
  obtain ⟨cells', hst, hset'⟩ := hset (j := 2) (v := SV.slice (h2.next + 1) 0 (blk.edges.length + 1) (blk.edges.length + 1) false 2) (by omega)
  have lt' := fun n hn => (hlt n hn).2
  have sub_nc : ∀ n ∈ nc, n ∈ p :: (m1 ++ (bb :: (M1 ++ (na ++ (nb ++ nc) ++ M2)) ++ m3)) := fun n hn => by simp [hn]
  have hdt := (List.nodup_cons.1 hd).2
  have e0 : m1 ++ (bb :: (M1 ++ (na ++ (nb ++ nc) ++ M2)) ++ m3) = (m1 ++ (bb :: (M1 ++ (na ++ nb)))) ++ (nc ++ (M2 ++ m3)) := by simp [List.append_assoc]
  have hpb : p ≠ bb := fun e => (List.nodup_cons.1 hd).1 (by simp [e])
  have hpn : p ∉ nc := fun e => (List.nodup_cons.1 hd).1 (by simp [e])
  rw [e0] at hdt
  have hd3 := List.nodup_append.1 hdt
  have hdnc := (List.nodup_append.1 hd3.2.1).1
  have hbn : bb ∉ nc := fun e => hd3.2.2 bb (by simp) bb (by simp [e]) rfl
  have hsa' : Sl h2 tt.int 1 true EI sa args n1 := hsa
  have hEE : EE tt h2 [si to, sa] (Ms.Edg.mk to args) n1 := ⟨sa, rfl, hsa'⟩
  obtain ⟨h4, e4, ok4, n4, kp4, kt4, sl4⟩ := sE.app1 (E := EE tt h2) (bytes := 32) (row := [si to, sa]) (a := Ms.Edg.mk to args) (ms := n1) ok2 (fun n hn => hlt n (sub_nc n hn)) rfl hEE (by omega) (by omega)
  have e4' : appV (h2.push (AB.arr [si to, sa] 51)) 51 2 32 (AV.s ee) (AV.s (SV.slice h2.next 0 1 1 true 2)) = some (AV.s (SV.slice (h2.next + 1) 0 (blk.edges.length + 1) (blk.edges.length + 1) false 2), h4) := e4
  have p4 : h4.get p = _ := (kp4 p hp.2 hpn).trans hg
  have b4 : h4.get bb = _ := (kp4 bb hbb.2 hbn).trans hbg
  simp (maxSteps := 1000000) (disch := first | omega | assumption | (simp only [List.length_cons, List.length_nil, Nat.reduceAdd]; done) | (simp only [inHid_nil']; done) | ((repeat (first | apply Ok_push | apply Ok_put)); assumption)) only [go_sem, ↓reduceIte, n_ne, n_nle, n_nlt, n_le, n_lt, and_false, false_and, if_false, hg, ix, rd1, e4', b4, hst, p4]
  obtain ⟨h5, e5⟩ : ∃ h5, h5 = h4.put bb (some (AB.arr cells' tt.blk)) := ⟨_, rfl⟩
  rw [← e5]
  have ok5 : Ok h5 := by rw [e5]; exact Ok_put ok4
  have g5 : ∀ n, n ≠ bb → h5.get n = h4.get n := fun n hn => by rw [e5, get_put ok4 hbb.1, if_neg hn]
  have b5 : h5.get bb = some (AB.arr cells' tt.blk) := by rw [e5, get_put ok4 hbb.1, if_pos rfl]
  have n5 : h5.next = h2.next + 2 := by rw [e5, Hp.next_put, n4]
  clear e5
  have k5 : ∀ n, n < h2.next → n ∉ nc → n ≠ bb → h5.get n = h2.get n := fun n h1 h3' h4' => (g5 n h4').trans (kp4 n h1 h3')
  have q1 : ∀ n ∈ n1, n ∉ nc ∧ n ≠ bb := fun n hn => ⟨fun h1 => (lo1 n hn).2.2 (sub_nc n h1), fun h1 => (lo1 n hn).2.2 (by simp [h1])⟩
  have qA : ∀ n ∈ m1 ++ (bb :: (M1 ++ (na ++ nb))), n ∉ nc := fun n hn h1 => hd3.2.2 n hn n (by simp [h1]) rfl
  have hd4 := List.nodup_append.1 hd3.2.1
  have qB : ∀ n ∈ M2 ++ m3, n ∉ nc := fun n hn h1 => hd4.2.2 n h1 n hn rfl
  have hd5 := List.nodup_append.1 hd3.1
  have hd6 := List.nodup_cons.1 hd5.2.1
  have b1 : ∀ n ∈ m1, n ≠ bb := fun n hn e => hd5.2.2 n hn bb (by simp) e
  have b2 : ∀ n ∈ M1 ++ (na ++ nb), n ≠ bb := fun n hn e => hd6.1 (e ▸ hn)
  have b3 : ∀ n ∈ nc ++ (M2 ++ m3), n ≠ bb := fun n hn e => hd3.2.2 bb (by simp) n hn e.symm
  have K : ∀ n, n ∈ m1 ∨ n ∈ M1 ∨ n ∈ na ∨ n ∈ nb ∨ n ∈ M2 ∨ n ∈ m3 → h5.get n = h2.get n := fun n hn => by
    refine k5 n (lt' n ?_) ?_ ?_
    · rcases hn with h | h | h | h | h | h <;> simp [h]
    · rcases hn with h | h | h | h | h | h
      · exact qA n (by simp [h])
      · exact qA n (by simp [h])
      · exact qA n (by simp [h])
      · exact qA n (by simp [h])
      · exact qB n (by simp [h])
      · exact qB n (by simp [h])
    · rcases hn with h | h | h | h | h | h
      · exact b1 n h
      · exact b2 n (by simp [h])
      · exact b2 n (by simp [h])
      · exact b2 n (by simp [h])
      · exact b3 n (by simp [h])
      · exact b3 n (by simp [h])
  have T : ∀ n ∈ nc.tail, h5.get n = h2.get n := fun n hn => (g5 n (b3 n (by simp [List.mem_of_mem_tail hn]))).trans (kt4 n hn hdnc)
  have X1 : ∀ n ∈ n1, h5.get n = h2.get n := fun n hn => k5 n (lo1 n hn).2.1 (q1 n hn).1 (q1 n hn).2
  have sE5 : Sl h5 tt.edg 2 false (EE tt h5) (SV.slice (h2.next + 1) 0 (blk.edges.length + 1) (blk.edges.length + 1) false 2) (blk.edges ++ [⟨to, args⟩]) ((h2.next + 1) :: (nc.tail ++ n1)) := by
    have := sl4 (E' := EE tt h5) (fun row a m hm k => k.keep (fun n hn => by
      rcases hm n hn with h1 | h1
      · exact T n h1
      · exact X1 n h1))
    refine this.keep (fun n hn => g5 n ?_)
    rcases List.mem_cons.1 hn with rfl | hn
    · omega
    · rcases List.mem_append.1 hn with hn | hn
      · exact b3 n (by simp [List.mem_of_mem_tail hn])
      · exact (q1 n hn).2
  have sB := hset' (h' := h5) (E' := EB tt h5) (a' := { blk with edges := blk.edges ++ [⟨to, args⟩] }) (ms' := na ++ (nb ++ ((h2.next + 1) :: (nc.tail ++ n1)))) b5 ⟨pp, ia, _, na, nb, _, rfl, sp.keep (fun n hn => K n (by simp [hn])), sI.imp (fun n hn => K n (by simp [hn])) (fun row a ms hm k => k.keep (fun n hn => K n (by simp [hm n hn]))), sE5, rfl⟩ (fun row a m hm k => k.keep (fun n hn => by
    rcases List.mem_append.1 (hm n hn) with h | h
    · exact K n (by simp [h])
    · exact K n (by simp [h])))
  have hmod : (edgeS w2 kk to args).blocks = w2.blocks.set kk { blk with edges := blk.edges ++ [⟨to, args⟩] } := by
    unfold edgeS; exact modify_to_set hblk
  rw [← hmod] at sB
  have hnk : (h2.next + 1) ∉ nc ∧ (h2.next + 1) ∉ n1 := ⟨fun h1 => by have := lt' _ (sub_nc _ h1); omega, fun h1 => by have := (lo1 _ h1).2.1; omega⟩
  have nd5 : ((h2.next + 1) :: (nc.tail ++ n1)).Nodup := nodup_app hdnc nd1 (fun n hn => (q1 n hn).1) hnk.1 hnk.2
  have e6 : m1 ++ (bb :: (M1 ++ (na ++ (nb ++ ((h2.next + 1) :: (nc.tail ++ n1))) ++ M2)) ++ m3) = (m1 ++ (bb :: (M1 ++ (na ++ nb)))) ++ (((h2.next + 1) :: (nc.tail ++ n1)) ++ (M2 ++ m3)) := by simp [List.append_assoc]
  have old : ∀ n, n ∈ (m1 ++ (bb :: (M1 ++ (na ++ nb)))) ++ (nc ++ (M2 ++ m3)) → n ∈ p :: (m1 ++ (bb :: (M1 ++ (na ++ (nb ++ nc) ++ M2)) ++ m3)) := fun n hn => by
    rw [← e0] at hn; exact List.mem_cons_of_mem _ hn
  have hn6 : ∀ n ∈ (m1 ++ (bb :: (M1 ++ (na ++ nb)))) ++ (((h2.next + 1) :: (nc.tail ++ n1)) ++ (M2 ++ m3)), n ∈ p :: (m1 ++ (bb :: (M1 ++ (na ++ (nb ++ nc) ++ M2)) ++ m3)) ∨ n = h2.next + 1 ∨ n ∈ n1 := fun n hn => by
    rcases List.mem_append.1 hn with hn | hn
    · exact .inl (old n (List.mem_append_left _ hn))
    · rcases List.mem_append.1 hn with hn | hn
      · rcases List.mem_cons.1 hn with rfl | hn
        · exact .inr (.inl rfl)
        · rcases List.mem_append.1 hn with hn | hn
          · exact .inl (sub_nc n (List.mem_of_mem_tail hn))
          · exact .inr (.inr hn)
      · exact .inl (old n (List.mem_append_right _ (List.mem_append_right _ hn)))
  have nd6 : (p :: (m1 ++ (bb :: (M1 ++ (na ++ (nb ++ ((h2.next + 1) :: (nc.tail ++ n1))) ++ M2)) ++ m3))).Nodup := by
    rw [List.nodup_cons]
    refine ⟨fun h1 => ?_, ?_⟩
    · rw [e6] at h1
      rcases List.mem_append.1 h1 with h1 | h1
      · exact (List.nodup_cons.1 hd).1 (by rw [e0]; exact List.mem_append_left _ h1)
      · rcases List.mem_append.1 h1 with h1 | h1
        · rcases List.mem_cons.1 h1 with h1 | h1
          · omega
          · rcases List.mem_append.1 h1 with h1 | h1
            · exact hpn (List.mem_of_mem_tail h1)
            · exact (lo1 p h1).2.2 (by simp)
        · exact (List.nodup_cons.1 hd).1 (by rw [e0]; exact List.mem_append_right _ (List.mem_append_right _ h1))
    · rw [e6]
      refine nodup_repl2 hdt nd5 (fun n hn => ?_)
      rcases List.mem_cons.1 hn with rfl | hn
      · exact .inr (fun h1 => by have := lt' _ (old _ h1); omega)
      · rcases List.mem_append.1 hn with hn | hn
        · exact .inl (List.mem_of_mem_tail hn)
        · exact .inr (fun h1 => (lo1 n hn).2.2 (old n h1))
  have lt6 : ∀ n ∈ p :: (m1 ++ (bb :: (M1 ++ (na ++ (nb ++ ((h2.next + 1) :: (nc.tail ++ n1))) ++ M2)) ++ m3)), 1 ≤ n ∧ n < h5.next := fun n hn => by
    rcases List.mem_cons.1 hn with rfl | hn
    · omega
    · rw [e6] at hn
      rcases hn6 n hn with h1 | h1 | h1
      · have := hlt n h1; omega
      · omega
      · have := lo1 n h1; omega
  refine ⟨_, ⟨⟨av, bv, kv, m1, _, m3, (g5 p hpb).trans p4, hv.keep (fun n hn => K n (by simp [hn])), sB, hk.keep (fun n hn => K n (by simp [hn])), rfl⟩, nd6, lt6⟩, ⟨ok5, by omega, fun n hn => ?_, fun n h1 h3' => ?_⟩⟩
  · have hn' : n ∈ p :: (m1 ++ (bb :: (M1 ++ (na ++ (nb ++ nc) ++ M2)) ++ m3)) ∨ n = h2.next + 1 ∨ n ∈ n1 := by
      rcases List.mem_cons.1 hn with rfl | hn
      · exact .inl (by simp)
      · rw [e6] at hn; exact hn6 n hn
    rcases hn' with h1 | h1 | h1
    · have := List.mem_append_left n1 h1
      exact .inl this
    · exact .inr (by omega)
    · exact .inl (by simp [h1])
  · have hno : n ∉ p :: (m1 ++ (bb :: (M1 ++ (na ++ (nb ++ nc) ++ M2)) ++ m3)) := fun h4' => h3' (by have := List.mem_append_left n1 h4'; exact this)
    exact k5 n h1 (fun h4' => hno (sub_nc n h4')) (fun e => hno (by simp [e]))
end
end Go.Proofs.Ytaljcpoopmedmaa.Ev

/- The builders of functions: the newest value of a class. -/
namespace Go.Proofs.Ytaljcpoopmedmaa.Ev
open Go Go.RowKit Go.Proofs.Ytaljcpoopmedmaa.Ms
attribute [local go_sem] LD_head_callk zkH_some contH_hide W_skip W_ret W_exit W_seq W_block LW_cond zcO_bool W_region W_draw WO_nil LO_pure zpO_some LO_call zkO_some contO_eq LO_guard zgO_bool zgO_undef zmO_some WD_nil LD_pure zpD_some zmD_some LD_call zkD_some contD_eq LD_guard zgD_bool zgD_undef LD_head_pure zhpD_some LD_head_load zhlD_some LD_head_bslice zhaD_some zhbD_some thenQ_normal thenQ_exit thenQ_ret blkQ_normal blkQ_exit blkQ_ret loopQ_normal loopQ_exit loopQ_ret LO_new LO_box LO_bslice LO_mkslice LO_load LO_store LO_app LO_copy LO_clear LO_mkmap LO_look LO_mupd LO_slicea LO_boxc LD_new LD_box LD_bslice LD_mkslice LD_load LD_store LD_app LD_copy LD_clear LD_mkmap LD_look LD_mupd LD_slicea LD_boxc ev_l ev_g ev_c evs_nil evs_cons lget_zero lget_succ lset_zero lset_succ putD_none putD_some undefs_zero undefs_succ ob_s ob_n oif_ite svc_s svc_undef vInt_int vBool_bool sInt_int sBool_bool cel_s cel_agg mkAV_f mkAV_t celA_s celA_agg ltake_zero ltake_succ ldrop_zero ldrop_succ ldrop_nil llen_nil llen_cons lover_nil lover_cons loverAt_zero loverAt_succ nbeq_refl nbeq_eq nble_eq Lp_mm mmV_min mmV_max pop_mv Lp_pick pickO_bool pop_build fill_nil fill_cons Lp_bin binV_some pop_not pop_neg Lp_fld fldV_ptr fldV_cp pop_fval Lp_ext extO_tup mk1_some Lp_nchk nchkV_ptr nchkV_cp pop_conv pop_mkfun ptrs_nil ptrs_cons capAVs_nil capAVs_cons sPtrC_ptr sPtrC_cp sPtr_ptr Lp_len lenO_some lenV_nil lenV_lst lenV_slice numS_64 bin_add bin_sub bin_mul bin_quo_pos bin_rem_pos bin_shr_pos bin_eq bin_ne bin_lt bin_le bin_gt bin_ge Lp_ixs ixsO_some Lp_ixa ixaO_some Lr_one re1_f re1_t Lr_tmp reT_s reT_agg Lr_cell reP_some reC_ptr outP_some Lret_normal Lret_ret resAll_nil resAll_cons result_nil Lr_two re2_some ok_eq rdB_arr wrB_arr La_load loadO_ptr loadO_cp ldR_t ldR_f La_store stR_some La_mkslice mksO_some La_app appO_some bsO_some boxO_s boxO_agg fpV_ptr fpV_cp sel_nil sel_cons inHid_nil' inHid_cons' LV_ptr LV_cp mkL_t mkL_f Int.cast_ofNat_Int Int.natCast_zero Int.natCast_one decide_eq_true_eq decide_eq_false_iff_not Bool.false_eq_true and_true true_and List.cons_append List.nil_append reduceCtorEq decide_true decide_false Bool.not_true Bool.not_false Nat.add_zero Nat.zero_add Option.some.injEq Bool.true_eq_false not_true_eq_false not_false_eq_true Hp.next_push Hp.next_put Nat.add_assoc self_add add_self ixsV_slice1 ixaV_ptr ixaV_cp ixaV_ptr0 ixaV_ptr1 ixaV_cp0 ixaV_cp1 hid_ok get_hide La_bslice La_box aop_new storeO_s storeO_agg get_push get_put mksV_two ixsV_slice0 ixsV_slice Int.reduceToNat Nat.reduceAdd Nat.reduceMul Nat.reduceEqDiff Int.reduceEq Int.reduceLT Int.reduceLE Int.reduceNeg Int.reduceAdd Int.reduceSub Int.reduceMul Int.reduceNe
set_option linter.unusedVariables false
set_option linter.unusedSimpArgs false
set_option linter.unusedSectionVars false
set_option maxRecDepth 100000
set_option maxHeartbeats 2000000
theorem defS_has {p : Pc} {flags uses i : Nat} {x : Iw × Nat × Ms} : ∃ o ∈ (defS p flags uses i x).1.ops, o.kind = 2 := by
  unfold defS
  simp only
  split <;> exact ⟨_, List.mem_append_right _ (List.mem_singleton.2 rfl), rfl⟩
theorem defS_sub {p : Pc} {flags uses i : Nat} {x : Iw × Nat × Ms} : ∀ o ∈ x.1.ops, o ∈ (defS p flags uses i x).1.ops := by
  intro o ho
  unfold defS
  simp only
  split <;> simp [ho]
theorem defsS_sub {p : Pc} {flags uses : Nat} : ∀ (d i : Nat) (x : Iw × Nat × Ms), ∀ o ∈ x.1.ops, o ∈ (defsS p flags uses d i x).1.ops
  | 0, i, x, o, h => h
  | d + 1, i, x, o, h => defsS_sub d (i + 1) _ o (defS_sub o h)
theorem lay_known {w : Ms} {p : Pc} : (layS w p).known ≠ [] := by
  have h : ∃ o ∈ (instrS w p).1.ops, o.kind = 2 := by
    unfold instrS
    simp only
    rw [Nat.add_comm 1]
    obtain ⟨o, h1, h2⟩ := defS_has (p := p) (flags := pk p.flags (2 ^ 30)) (uses := (usesS w p (pk p.flags (2 ^ 30)) (if w.known = [] then 0 else pk p.flags (2 ^ 30) % 4) 0 ⟨[], pk p.limits (2 ^ 40), (0, 0), (0, 0)⟩).ops.length) (i := 0) (x := (usesS w p (pk p.flags (2 ^ 30)) (if w.known = [] then 0 else pk p.flags (2 ^ 30) % 4) 0 ⟨[], pk p.limits (2 ^ 40), (0, 0), (0, 0)⟩, (usesS w p (pk p.flags (2 ^ 30)) (if w.known = [] then 0 else pk p.flags (2 ^ 30) % 4) 0 ⟨[], pk p.limits (2 ^ 40), (0, 0), (0, 0)⟩).ops.length, w))
    exact ⟨o, defsS_sub _ 1 _ o h1, h2⟩
  obtain ⟨o, h1, h2⟩ := h
  intro h3
  have h4 : (instrS w p).2.known ++ defsOf (instrS w p).1 = [] := h3
  have h5 := (List.append_eq_nil_iff.1 h4).2
  unfold defsOf at h5
  have h6 : o.value ∈ ((instrS w p).1.ops.filter (fun o => o.kind = 2)).map (·.value) := List.mem_map.2 ⟨o, List.mem_filter.2 ⟨h1, by simpa using h2⟩, rfl⟩
  rw [h5] at h6
  cases h6
section
variable {F : Fns} (B : Base F)
include B
theorem newest_loop {hi : Hp} {p bx : Nat} {w : Ms} {ns : List Nat} (ok : Ok hi) (mr : MR tt hi p w ns) {N : Nat} (wk : Wok w N) (hN : N ≤ 90000) {cls : Nat} {a x3 : AV} {Q : Ex → St → Prop} : ∀ (n : Nat) (i : Int) (_ : i = n - 1 ∨ (n = 0 ∧ i < 0 ∧ -10 ≤ i)) (_ : n ≤ w.known.length) (x4 x5 : AV)
    (hF : findS w cls n = none → ∀ x4 x5 i, Q (.exit 0) (.mk [.s (.ptr p 0), vi cls, a, x3, x4, x5, vi i, .s (.ptr bx 0)] hi))
    (hS : ∀ v, findS w cls n = some v → ∀ x4 x5 i, Q .ret (.mk [.s (.ptr p 0), vi cls, a, vi v, x4, x5, vi i, .s (.ptr bx 0)] hi)),
    W F lp1_newest.loop (.mk [.s (.ptr p 0), vi cls, a, x3, x4, x5, vi i, .s (.ptr bx 0)] hi) Q
  | 0, i, h1, h2, x4, x5, hF, hS => by
    rw [W_loop]
    unfold lp1_newest
    have h3 : ¬ (0 ≤ i) := by omega
    simp (maxSteps := 1000000) (disch := first | omega | assumption | (simp only [List.length_cons, List.length_nil, Nat.reduceAdd]; done) | (simp only [inHid_nil']; done) | ((repeat (first | apply Ok_push | apply Ok_put)); assumption)) only [go_sem, ↓reduceIte, h3]
    exact hF rfl _ _ _
  | n + 1, i, h1, h2, x4, x5, hF, hS => by
    rw [W_loop]
    unfold lp1_newest
    have h3 : i = (n : Int) := by omega
    subst h3
    have h4 : (0 ≤ (n : Int)) := by omega
    obtain ⟨⟨av, bv, kv, n1, n2, n3, hg, hv, hb, hk, e0⟩, hd, hlt⟩ := id mr
    obtain ⟨v, hv1⟩ : ∃ v, w.known[n]? = some v := ⟨_, List.getElem?_eq_getElem h2⟩
    have hvl := wk.known v (List.mem_of_getElem? hv1)
    obtain ⟨kb, krow, kms, ke1, ke2, ke3, ⟨rfl, rfl⟩, ke5, ke6⟩ := hk.at hv1
    obtain ⟨c, hc1⟩ : ∃ c, w.values[v]? = some c := ⟨_, List.getElem?_eq_getElem hvl⟩
    obtain ⟨vb1, vrow, vms, ve1, ve2, ve3, ⟨rfl, rfl⟩, ve5, ve6⟩ := hv.at hc1
    have hfind : findS w cls (n + 1) = if c = cls then some v else findS w cls n := by
      show (if w.values.getD (w.known.getD n 0) 0 = cls then _ else _) = _
      simp only [List.getD_eq_getElem?_getD, hv1, hc1, Option.getD_some]
    have hnk := wk.nk
    by_cases hc : (c : Int) = cls
    · have hc' : c = cls := by omega
      simp (maxSteps := 1000000) (disch := first | omega | assumption | (simp only [List.length_cons, List.length_nil, Nat.reduceAdd]; done) | (simp only [inHid_nil']; done) | ((repeat (first | apply Ok_push | apply Ok_put)); assumption)) only [go_sem, ↓reduceIte, eq_true h4, hg, ke1, ke2, ve1, ve2, eq_true hc]
      exact hS v (by rw [hfind, if_pos hc']) _ _ _
    · have hc' : c ≠ cls := by omega
      simp (maxSteps := 1000000) (disch := first | omega | assumption | (simp only [List.length_cons, List.length_nil, Nat.reduceAdd]; done) | (simp only [inHid_nil']; done) | ((repeat (first | apply Ok_push | apply Ok_put)); assumption)) only [go_sem, ↓reduceIte, eq_true h4, hg, ke1, ke2, ve1, ve2, eq_false hc, w64_ok]
      exact newest_loop ok mr wk hN n _ (.inl rfl) (by omega) _ _ (fun h => hF (by rw [hfind, if_neg hc', h])) (fun v h => hS v (by rw [hfind, if_neg hc', h]))
theorem Wok.newest {w : Ms} {N : Nat} (wk : Wok w N) (cls : Nat) (p : Pc) : Wok (newestS w cls p).2 (N + 10) := by
  unfold newestS
  split
  · exact ⟨wk.m1, wk.m2, wk.vals, wk.known, wk.cur, Nat.le_add_right_of_le wk.nv, Nat.le_add_right_of_le wk.nb, Nat.le_add_right_of_le wk.nk, fun b hb => by have := wk.ni b hb; omega, Nat.le_add_right_of_le wk.na⟩
  · exact wk.lay _
theorem newest_ok {h : Hp} {p : Nat} {w : Ms} {ns : List Nat} (ok : Ok h) (mr : MR tt h p w ns) {N : Nat} (wk : Wok w N) (hN : N ≤ 79000) (cls : Nat) (hcls : cls < 2) (pc : Pc) (pin : Pin pc) :
    WC F 49 [.s (.ptr p 0), vi cls, .agg (encP pc)] h (fun v h' => v = vi (newestS w cls pc).1 ∧ ∃ ns', MR tt h' p (newestS w cls pc).2 ns' ∧ Mv h h' ns ns') := by
  refine WC_run (B.no 49 (by simp) _ _) ((B.T _).trans T_newest) rfl ?_
  unfold bd_newest
  have hpos := ok.pos
  obtain ⟨hA, eA⟩ : ∃ hA, hA = h.push (AB.arr (encP pc) 72) := ⟨_, rfl⟩
  have okA : Ok hA := by rw [eA]; exact Ok_push ok
  have gA : ∀ n, n < h.next → hA.get n = h.get n := fun n hn => by rw [eA, get_push ok, if_neg (by omega)]
  have oA : hA.get h.next = some (.arr (encP pc) 72) := by rw [eA, get_push ok, if_pos rfl]
  have nA : hA.next = h.next + 1 := by rw [eA, Hp.next_push]
  have eA' : h.push (AB.arr [si pc.kind, si pc.op, si pc.a, si pc.b, si pc.c, si pc.limits, si pc.flags] 72) = hA := by rw [eA]; rfl
  clear eA
  have mrA := mr.keep (h' := hA) (fun n hn => gA n (mr.lt n hn).2) (by omega)
  have mvA : Mv h hA ns ns := ⟨okA, by omega, fun n hn => .inl hn, fun n h1 h2 => gA n h1⟩
  unfold encP at oA
  obtain ⟨⟨av, bv, kv, n1, n2, n3, hg, hv, hb, hk, e0⟩, hd, hlt⟩ := id mrA
  have kl := hk.len
  have hnk := wk.nk
  obtain ⟨⟨q1, q2⟩, ⟨q3, q4⟩, ⟨q5, q6⟩, ⟨q7, q8⟩, ⟨q9, q10⟩, ⟨q11, q12⟩, ⟨q13, q14⟩⟩ := id pin
  have hp3 : pk pc.b 3 < 3 := pk_lt (by omega)
  simp (maxSteps := 1000000) (disch := first | omega | assumption | (simp only [List.length_cons, List.length_nil, Nat.reduceAdd]; done) | (simp only [inHid_nil']; done) | ((repeat (first | apply Ok_push | apply Ok_put)); assumption)) only [go_sem, ↓reduceIte, pkl_2, pkl_3, pkl_4, pkl_6, pkl_9, pkl_256, pkl_1073741824, pkl_1099511627776, WC_picked B, encP, eA', hg, oA, kl, w64_ok]
  refine newest_loop B okA mrA wk (by omega) (w.known.length - pk pc.b 3) _ (by omega) (Nat.sub_le _ _) _ _ (fun hF x4 x5 i => ?_) (fun v hF x4 x5 i => ?_)
  · have hnew : newestS w cls pc = ((layS w { pc with c := 3 * cls }).known.getD ((layS w { pc with c := 3 * cls }).known.length - 1) 0, layS w { pc with c := 3 * cls }) := by
      unfold newestS; rw [hF]
    rw [hnew]
    have hbx : ∀ n ∈ ns, n ≠ h.next := fun n hn e => by have := (mr.lt n hn).2; omega
    obtain ⟨hB, eB⟩ : ∃ hB, hB = hA.put h.next (some (AB.arr [si pc.kind, si pc.op, si pc.a, si pc.b, si (3 * (cls : Int)), si pc.limits, si pc.flags] 72)) := ⟨_, rfl⟩
    have okB : Ok hB := by rw [eB]; exact Ok_put okA
    have gB : ∀ n, n ≠ h.next → hB.get n = hA.get n := fun n hn => by rw [eB, get_put okA hpos, if_neg hn]
    have oB : hB.get h.next = some (AB.arr [si pc.kind, si pc.op, si pc.a, si pc.b, si (3 * (cls : Int)), si pc.limits, si pc.flags] 72) := by rw [eB, get_put okA hpos, if_pos rfl]
    have nB : hB.next = h.next + 1 := by rw [eB, Hp.next_put, nA]
    have mrB := mrA.keep (h' := hB) (fun n hn => gB n (hbx n hn)) (by omega)
    have mvB : Mv h hB ns ns := ⟨okB, by omega, fun n hn => .inl hn, fun n h1 h2 => (gB n (by omega)).trans (gA n h1)⟩
    have h3c : (3 * (cls : Int)) ≤ 3 ∧ 0 ≤ 3 * (cls : Int) := by omega
    simp (maxSteps := 1000000) (disch := first | omega | assumption | (simp only [List.length_cons, List.length_nil, Nat.reduceAdd]; done) | (simp only [inHid_nil']; done) | ((repeat (first | apply Ok_push | apply Ok_put)); assumption)) only [go_sem, ↓reduceIte, oA, w64_ok]
    rw [← eB]
    refine WC.imp (lay_ok B okB mrB wk (by omega) { pc with c := 3 * cls } ⟨⟨q1, q2⟩, ⟨q3, q4⟩, ⟨q5, q6⟩, ⟨q7, q8⟩, ⟨by show _ ≤ 3 * (cls : Int); omega, by show 3 * (cls : Int) ≤ _; omega⟩, ⟨q11, q12⟩, ⟨q13, q14⟩⟩) ?_
    rintro _ h2 ⟨rfl, ns', mr2, mv2⟩
    have wk2 := wk.lay { pc with c := 3 * cls }
    have hne := lay_known (w := w) (p := { pc with c := 3 * cls })
    generalize layS w { pc with c := 3 * cls } = w2 at mr2 wk2 hne ⊢
    have mrr := mr2
    obtain ⟨⟨av2, bv2, kv2, m1, m2, m3, hg2, hv2, hb2, hk2, e2⟩, hd2, hlt2⟩ := mr2
    have hl2 : 0 < w2.known.length := List.length_pos_iff.2 hne
    obtain ⟨v, hv3⟩ : ∃ v, w2.known[w2.known.length - 1]? = some v := ⟨_, List.getElem?_eq_getElem (by omega)⟩
    obtain ⟨kb, krow, kms, ke1, ke2, ke3, ⟨rfl, rfl⟩, ke5, ke6⟩ := hk2.at hv3
    have kl2 := hk2.len
    have hnk2 := wk2.nk
    have ok2 := mv2.ok
    have hgd : w2.known.getD (w2.known.length - 1) 0 = v := by rw [List.getD_eq_getElem?_getD, hv3, Option.getD_some]
    have hsub : ((w2.known.length : Int) - 1) = ((w2.known.length - 1 : Nat) : Int) := by omega
    simp (maxSteps := 1000000) (disch := first | omega | assumption | (simp only [List.length_cons, List.length_nil, Nat.reduceAdd]; done) | (simp only [inHid_nil']; done) | ((repeat (first | apply Ok_push | apply Ok_put)); assumption)) only [go_sem, ↓reduceIte, hg2, kl2, w64_ok, hsub, ke1, ke2, hgd]
    exact ⟨ns', mrr, mvB.trans mv2⟩
  · have hnew : newestS w cls pc = (v, w) := by unfold newestS; rw [hF]
    rw [hnew]
    simp (maxSteps := 1000000) (disch := first | omega | assumption | (simp only [List.length_cons, List.length_nil, Nat.reduceAdd]; done) | (simp only [inHid_nil']; done) | ((repeat (first | apply Ok_push | apply Ok_put)); assumption)) only [go_sem, ↓reduceIte]
    exact ⟨ns, mrA, mvA⟩
end
end Go.Proofs.Ytaljcpoopmedmaa.Ev

/- The builders of functions: a loop. -/
import Derived.Test.YtaljcpoopmedmaaMc4
namespace Go.Proofs.Ytaljcpoopmedmaa.Ev
open Go Go.RowKit Go.Proofs.Ytaljcpoopmedmaa.Ms
attribute [local go_sem] LD_head_callk zkH_some contH_hide W_skip W_ret W_exit W_seq W_block LW_cond zcO_bool W_region W_draw WO_nil LO_pure zpO_some LO_call zkO_some contO_eq LO_guard zgO_bool zgO_undef zmO_some WD_nil LD_pure zpD_some zmD_some LD_call zkD_some contD_eq LD_guard zgD_bool zgD_undef LD_head_pure zhpD_some LD_head_load zhlD_some LD_head_bslice zhaD_some zhbD_some thenQ_normal thenQ_exit thenQ_ret blkQ_normal blkQ_exit blkQ_ret loopQ_normal loopQ_exit loopQ_ret LO_new LO_box LO_bslice LO_mkslice LO_load LO_store LO_app LO_copy LO_clear LO_mkmap LO_look LO_mupd LO_slicea LO_boxc LD_new LD_box LD_bslice LD_mkslice LD_load LD_store LD_app LD_copy LD_clear LD_mkmap LD_look LD_mupd LD_slicea LD_boxc ev_l ev_g ev_c evs_nil evs_cons lget_zero lget_succ lset_zero lset_succ putD_none putD_some undefs_zero undefs_succ ob_s ob_n oif_ite svc_s svc_undef vInt_int vBool_bool sInt_int sBool_bool cel_s cel_agg mkAV_f mkAV_t celA_s celA_agg ltake_zero ltake_succ ldrop_zero ldrop_succ ldrop_nil llen_nil llen_cons lover_nil lover_cons loverAt_zero loverAt_succ nbeq_refl nbeq_eq nble_eq Lp_mm mmV_min mmV_max pop_mv Lp_pick pickO_bool pop_build fill_nil fill_cons Lp_bin binV_some pop_not pop_neg Lp_fld fldV_ptr fldV_cp pop_fval Lp_ext extO_tup mk1_some Lp_nchk nchkV_ptr nchkV_cp pop_conv pop_mkfun ptrs_nil ptrs_cons capAVs_nil capAVs_cons sPtrC_ptr sPtrC_cp sPtr_ptr Lp_len lenO_some lenV_nil lenV_lst lenV_slice numS_64 bin_add bin_sub bin_mul bin_quo_pos bin_rem_pos bin_shr_pos bin_eq bin_ne bin_lt bin_le bin_gt bin_ge Lp_ixs ixsO_some Lp_ixa ixaO_some Lr_one re1_f re1_t Lr_tmp reT_s reT_agg Lr_cell reP_some reC_ptr outP_some Lret_normal Lret_ret resAll_nil resAll_cons result_nil Lr_two re2_some ok_eq rdB_arr wrB_arr La_load loadO_ptr loadO_cp ldR_t ldR_f La_store stR_some La_mkslice mksO_some La_app appO_some bsO_some boxO_s boxO_agg fpV_ptr fpV_cp sel_nil sel_cons inHid_nil' inHid_cons' LV_ptr LV_cp mkL_t mkL_f Int.cast_ofNat_Int Int.natCast_zero Int.natCast_one decide_eq_true_eq decide_eq_false_iff_not Bool.false_eq_true and_true true_and List.cons_append List.nil_append reduceCtorEq decide_true decide_false Bool.not_true Bool.not_false Nat.add_zero Nat.zero_add Option.some.injEq Bool.true_eq_false not_true_eq_false not_false_eq_true Hp.next_push Hp.next_put Nat.add_assoc self_add add_self ixsV_slice1 ixaV_ptr ixaV_cp ixaV_ptr0 ixaV_ptr1 ixaV_cp0 ixaV_cp1 hid_ok get_hide La_bslice La_box aop_new storeO_s storeO_agg get_push get_put mksV_two ixsV_slice0 ixsV_slice Int.reduceToNat Nat.reduceAdd Nat.reduceMul Nat.reduceEqDiff Int.reduceEq Int.reduceLT Int.reduceLE Int.reduceNeg Int.reduceAdd Int.reduceSub Int.reduceMul Int.reduceNe
set_option linter.unusedVariables false
set_option linter.unusedSimpArgs false
set_option linter.unusedSectionVars false
set_option maxRecDepth 100000
set_option maxHeartbeats 2000000
theorem odd_in {a : Int} (h1 : -9223372036854775808 ≤ a) (h2 : a ≤ 9223372036854775807) : -9223372036854775808 ≤ odd a ∧ odd a ≤ 9223372036854775807 := by
  unfold odd; omega
theorem Pin.odd {q : Pc} (pin : Pin q) : Pin { q with flags := Ms.odd q.flags } := ⟨pin.kind, pin.op, pin.a, pin.b, pin.c, pin.limits, odd_in pin.flags.1 pin.flags.2⟩
theorem Wok.params {w : Ms} {N : Nat} (wk : Wok w N) {l : List Nat} (h : ∀ v ∈ l, v < w.values.length) (hl : l.length ≤ 2) : Wok { w with known := w.known ++ l } (N + 2) := ⟨wk.m1, wk.m2, wk.vals, fun v hv => by
  rcases List.mem_append.1 hv with h1 | h1
  · exact wk.known v h1
  · exact h v h1, wk.cur, Nat.le_add_right_of_le wk.nv, Nat.le_add_right_of_le wk.nb, by have := wk.nk; simp; omega, fun b hb => by have := wk.ni b hb; omega, Nat.le_add_right_of_le wk.na⟩
theorem mloop_ok {h : Hp} {p : Nat} {w : Ms} {ns : List Nat} (ok : Ok h) (mr : MR tt h p w ns) {N : Nat} (wk : Wok w N) (hN : N ≤ 50000) (pc : Pc) (pin : Pin pc) :
    WC F2 31 [.s (.ptr p 0), .agg (encP pc)] h (fun v h' => v = .tup [] ∧ ∃ ns', MR tt h' p (loopS w pc) ns' ∧ Mv h h' ns ns') := by
  refine WC_run (no2 rfl rfl) T_mloop rfl ?_
  unfold bd_mloop
  have hpos := ok.pos
  have K0 := (FS.refl ok mr).push (a := .arr (encP pc) 72)
  have hx0 := (K0.kp _ (List.mem_cons_self ..)).1
  obtain ⟨bx, ebx⟩ : ∃ bx, h.next = bx := ⟨_, rfl⟩
  simp only [ebx] at K0 hx0
  have hl := pk_lt (n := pc.c) (m := 2) (by omega)
  have ok0 := K0.ok
  obtain ⟨⟨q1, q2⟩, ⟨q3, q4⟩, ⟨q5, q6⟩, ⟨q7, q8⟩, ⟨q9, q10⟩, ⟨q11, q12⟩, ⟨q13, q14⟩⟩ := id pin
  obtain ⟨hA, eA⟩ : ∃ hA, h.push (AB.arr (encP pc) 72) = hA := ⟨_, rfl⟩
  rw [eA] at K0 hx0 ok0
  unfold encP at eA hx0
  simp (maxSteps := 1000000) (disch := first | omega | assumption | (simp only [List.length_cons, List.length_nil, Nat.reduceAdd]; done) | (simp only [inHid_nil']; done) | ((repeat (first | apply Ok_push | apply Ok_put)); assumption)) only [go_sem, ↓reduceIte, pkl_2, pkl_3, pkl_4, pkl_6, pkl_9, pkl_256, pkl_1073741824, pkl_1099511627776, WC_picked base2, encP, eA, hx0, ebx]
  -- the newest values
  refine WC.imp (fs_newest K0 wk (by omega) hl (pc := pc) pin) ?_
  rintro _ h1 ⟨rfl, ns1, K1⟩
  have wk1 := wk.new (pk pc.c 2) pc
  have ok1 := K1.ok
  have hx1 := (K1.kp _ (List.mem_cons_self ..)).1
  unfold encP at hx1
  obtain ⟨v, ev⟩ : ∃ v, v = newestS w (pk pc.c 2) pc := ⟨_, rfl⟩
  rw [← ev] at K1 wk1
  rw [← ev]
  simp (maxSteps := 1000000) (disch := first | omega | assumption | (simp only [List.length_cons, List.length_nil, Nat.reduceAdd]; done) | (simp only [inHid_nil']; done) | ((repeat (first | apply Ok_push | apply Ok_put)); assumption)) only [go_sem, ↓reduceIte, hx1]
  refine WC.imp (fs_newest K1 wk1 (by omega) (cls := 0) (by omega) (pc := pc) pin) ?_
  rintro _ h2 ⟨rfl, ns2, K2⟩
  have wk2 := wk1.new 0 pc
  have ok2 := K2.ok
  obtain ⟨u, eu⟩ : ∃ u, u = newestS v.2 0 pc := ⟨_, rfl⟩
  rw [← eu] at K2 wk2
  rw [← eu]
  simp (maxSteps := 1000000) (disch := first | omega | assumption | (simp only [List.length_cons, List.length_nil, Nat.reduceAdd]; done) | (simp only [inHid_nil']; done) | ((repeat (first | apply Ok_push | apply Ok_put)); assumption)) only [go_sem, ↓reduceIte]
  -- the head
  have K2' := K2.push (a := .arr [si (pk pc.c 2 : Nat), si (0 : Nat)] 3)
  refine WC.imp (fs_block2 K2' wk2 (by omega) (by omega)) ?_
  rintro _ h3 ⟨rfl, ns3, K3⟩
  have wk3 := wk2.block [pk pc.c 2, 0] (by simp) (by simp; omega)
  have ok3 := K3.ok
  have b3 : (blockS u.2 [pk pc.c 2, 0]).blocks.length = u.2.blocks.length + 1 := by simp [blockS]
  have p3 : pr (blockS u.2 [pk pc.c 2, 0]) u.2.blocks.length = some (List.range' u.2.values.length 2) := by
    unfold pr blockS
    simp
  have n3 : (blockS u.2 [pk pc.c 2, 0]).values.length = u.2.values.length + 2 := by simp [blockS]
  generalize e3 : blockS u.2 [pk pc.c 2, 0] = w3 at *
  obtain ⟨a, b, c, hg, kl, bl⟩ := K3.cells
  have hcur3 := wk3.cur
  simp (maxSteps := 1000000) (disch := first | omega | assumption | (simp only [List.length_cons, List.length_nil, Nat.reduceAdd]; done) | (simp only [inHid_nil']; done) | ((repeat (first | apply Ok_push | apply Ok_put)); assumption)) only [go_sem, ↓reduceIte, hg]
  have K3' := K3.push (a := .arr [si (v.1 : Nat), si (u.1 : Nat)] 3)
  refine WC.imp (fs_edge2 K3' (fun r hr => by have := (K3.kp r hr).2.2.1; omega) hpos wk3 (by omega) (a := w3.cur) (to := u.2.blocks.length) hcur3) ?_
  rintro _ h4 ⟨rfl, ns4, K4⟩
  have wk4 := wk3.edge w3.cur u.2.blocks.length [v.1, u.1]
  have g4 := edge_grow w3 w3.cur u.2.blocks.length [v.1, u.1]
  have p4 := (pr_edge w3 w3.cur u.2.blocks.length [v.1, u.1] u.2.blocks.length).trans p3
  have n4 : (edgeS w3 w3.cur u.2.blocks.length [v.1, u.1]).values = w3.values := rfl
  generalize e4 : edgeS w3 w3.cur u.2.blocks.length [v.1, u.1] = w4 at *
  have ok4 := K4.ok
  obtain ⟨a4, b4, c4, hg4, kl4, bl4⟩ := K4.cells
  have K5 := K4.setcur (j := u.2.blocks.length) hg4
  have wk5 := wk4.setcur (j := u.2.blocks.length) (by omega)
  obtain ⟨h5, e5⟩ : ∃ h5, h4.put p (some (.arr [si w4.m.1, si w4.m.2, a4, b4, si (u.2.blocks.length : Nat), c4, si w4.all] tt.mas)) = h5 := ⟨_, rfl⟩
  rw [e5] at K5
  have ok5 := K5.ok
  obtain ⟨blk, hblk, hpar⟩ := Option.map_eq_some_iff.1 p4
  have hblk' : ({ w4 with cur := u.2.blocks.length } : Ms).blocks[u.2.blocks.length]? = some blk := hblk
  have hnk4 := wk4.nk
  obtain ⟨a5, b5, c5, bb, pp, z, h6, ns6, hg5, ix, rd1, ea, ok6, hp6, K6⟩ := K5.params hblk' (by rw [hpar]; simp) (by rw [hpar]; simp; omega)
  have hg6 := hp6.trans hg5
  have wk6 := wk5.params (l := blk.params) (fun v hv => by
    rw [hpar] at hv
    have := (List.mem_range'_1.1 hv).2
    show v < w4.values.length
    rw [n4, n3]; exact this) (by rw [hpar]; simp)
  obtain ⟨h7, e7⟩ : ∃ h7, h6.put p (some (.arr [si w4.m.1, si w4.m.2, a5, b5, si (u.2.blocks.length : Nat), z, si w4.all] tt.mas)) = h7 := ⟨_, rfl⟩
  have K7 : FS h h7 p { w4 with cur := u.2.blocks.length, known := w4.known ++ blk.params } ns [(bx, .arr (encP pc) 72)] ns6 := by rw [← e7]; exact K6
  have wk7 : Wok { w4 with cur := u.2.blocks.length, known := w4.known ++ blk.params } _ := wk6
  have ok7 := K7.ok
  have hx7 := (K7.kp _ (List.mem_cons_self ..)).1
  have K8 := K7.put (a' := .arr (encP { pc with flags := Ms.odd pc.flags }) 72) (by simp) hpos
  obtain ⟨h8, e8⟩ : ∃ h8, h7.put bx (some (.arr (encP { pc with flags := Ms.odd pc.flags }) 72)) = h8 := ⟨_, rfl⟩
  rw [e8] at K8
  have ok8 := K8.ok
  have hx8 := (K8.kp _ (List.mem_cons_self ..)).1
  unfold encP at hx7 hx8 e8
  have hor := bin_or1 q13 q14
  have hor' : binSV .or (.int .i64 pc.flags) (.int .i64 1) = some (vi (Ms.odd pc.flags)) := hor
  simp (maxSteps := 1000000) (disch := first | omega | assumption | (simp only [List.length_cons, List.length_nil, Nat.reduceAdd]; done) | (simp only [inHid_nil']; done) | ((repeat (first | apply Ok_push | apply Ok_put)); assumption)) only [go_sem, ↓reduceIte, hg4, e5, hg5, ix, rd1, ea, hg6, e7, hx7, hor', e8, hx8]
  -- the head's instruction
  obtain ⟨w7, ew7⟩ : ∃ w7 : Ms, w7 = { w4 with cur := u.2.blocks.length, known := w4.known ++ blk.params } := ⟨_, rfl⟩
  rw [← ew7] at K8 wk7
  have l7 : w7.blocks.length = w4.blocks.length := by rw [ew7]
  refine WC.imp (fs_lay K8 wk7 (by omega) (pc := { pc with flags := Ms.odd pc.flags }) pin.odd) ?_
  rintro _ h9 ⟨rfl, ns9, K9⟩
  have wk9 := wk7.lay { pc with flags := Ms.odd pc.flags }
  have g9 := lay_grow w7 { pc with flags := Ms.odd pc.flags }
  have hne := lay_known (w := w7) (p := { pc with flags := Ms.odd pc.flags })
  obtain ⟨w9, e9⟩ : ∃ w9, w9 = layS w7 { pc with flags := Ms.odd pc.flags } := ⟨_, rfl⟩
  rw [← e9] at K9 wk9 g9 hne
  have hlen9 : 1 ≤ w9.known.length := List.length_pos_iff.2 hne
  have ok9 := K9.ok
  obtain ⟨a9, b9, c9, hg9, kl9, bl9⟩ := K9.cells
  simp (maxSteps := 1000000) (disch := first | omega | assumption | (simp only [List.length_cons, List.length_nil, Nat.reduceAdd]; done) | (simp only [inHid_nil']; done) | ((repeat (first | apply Ok_push | apply Ok_put)); assumption)) only [go_sem, ↓reduceIte, hg9, kl9]
  refine WC.imp (fs_block0 K9 wk9 (by omega)) ?_
  rintro _ hA1 ⟨rfl, nsA, KA⟩
  have wkA := wk9.block [] (by simp) (by simp)
  have okA := KA.ok
  simp (maxSteps := 1000000) (disch := first | omega | assumption | (simp only [List.length_cons, List.length_nil, Nat.reduceAdd]; done) | (simp only [inHid_nil']; done) | ((repeat (first | apply Ok_push | apply Ok_put)); assumption)) only [go_sem, ↓reduceIte]
  refine WC.imp (fs_block0 KA wkA (by omega)) ?_
  rintro _ hB ⟨rfl, nsB, KB⟩
  have wkB := wkA.block [] (by simp) (by simp)
  have okB := KB.ok
  have bA : (blockS w9 []).blocks.length = w9.blocks.length + 1 := by simp [blockS]
  have bB : (blockS (blockS w9 []) []).blocks.length = w9.blocks.length + 2 := by simp [blockS]
  have vB : (blockS (blockS w9 []) []).known = w9.known := rfl
  rw [bA]
  generalize eB : blockS (blockS w9 []) [] = wB at *
  simp (maxSteps := 1000000) (disch := first | omega | assumption | (simp only [List.length_cons, List.length_nil, Nat.reduceAdd]; done) | (simp only [inHid_nil']; done) | ((repeat (first | apply Ok_push | apply Ok_put)); assumption)) only [go_sem, ↓reduceIte]
  refine WC.imp (fs_edge0 KB wkB (by omega) (a := u.2.blocks.length) (to := w9.blocks.length) (by omega)) ?_
  rintro _ hC ⟨rfl, nsC, KC⟩
  have wkC := wkB.edge u.2.blocks.length w9.blocks.length []
  have gC := edge_grow wB u.2.blocks.length w9.blocks.length []
  have okC := KC.ok
  simp (maxSteps := 1000000) (disch := first | omega | assumption | (simp only [List.length_cons, List.length_nil, Nat.reduceAdd]; done) | (simp only [inHid_nil']; done) | ((repeat (first | apply Ok_push | apply Ok_put)); assumption)) only [go_sem, ↓reduceIte]
  refine WC.imp (fs_edge0 KC wkC (by omega) (a := u.2.blocks.length) (to := w9.blocks.length + 1) (by omega)) ?_
  rintro _ hD ⟨rfl, nsD, KD⟩
  have wkD := wkC.edge u.2.blocks.length (w9.blocks.length + 1) []
  have gD := edge_grow (edgeS wB u.2.blocks.length w9.blocks.length []) u.2.blocks.length (w9.blocks.length + 1) []
  have okD := KD.ok
  obtain ⟨wD, eD⟩ : ∃ wD, wD = edgeS (edgeS wB u.2.blocks.length w9.blocks.length []) u.2.blocks.length (w9.blocks.length + 1) [] := ⟨_, rfl⟩
  rw [← eD] at KD wkD gD
  obtain ⟨aD, bD, cD, hgD, klD, blD⟩ := KD.cells
  have KE := KD.setcur (j := w9.blocks.length) hgD
  have wkE := wkD.setcur (j := w9.blocks.length) (by omega)
  obtain ⟨hE, eE⟩ : ∃ hE, hD.put p (some (.arr [si wD.m.1, si wD.m.2, aD, bD, si (w9.blocks.length : Nat), cD, si wD.all] tt.mas)) = hE := ⟨_, rfl⟩
  rw [eE] at KE
  have okE := KE.ok
  have hxE := (KE.kp _ (List.mem_cons_self ..)).1
  have KF := KE.put (a' := .arr (encP { pc with flags := Ms.odd pc.flags, a := inc pc.a }) 72) (by simp) hpos
  obtain ⟨hF, eF⟩ : ∃ hF, hE.put bx (some (.arr (encP { pc with flags := Ms.odd pc.flags, a := inc pc.a }) 72)) = hF := ⟨_, rfl⟩
  rw [eF] at KF
  have okF := KF.ok
  have hxF := (KF.kp _ (List.mem_cons_self ..)).1
  have KG := KF.put (a' := .arr (encP { pc with flags := Ms.odd pc.flags, a := inc pc.a, op := inc pc.op }) 72) (by simp) hpos
  obtain ⟨hG, eG⟩ : ∃ hG, hF.put bx (some (.arr (encP { pc with flags := Ms.odd pc.flags, a := inc pc.a, op := inc pc.op }) 72)) = hG := ⟨_, rfl⟩
  rw [eG] at KG
  have okG := KG.ok
  have hxG := (KG.kp _ (List.mem_cons_self ..)).1
  unfold encP at hxE hxF hxG eF eG
  have ha := inc_w64 q5 q6
  have ho := inc_w64 q3 q4
  simp (maxSteps := 1000000) (disch := first | omega | assumption | (simp only [List.length_cons, List.length_nil, Nat.reduceAdd]; done) | (simp only [inHid_nil']; done) | ((repeat (first | apply Ok_push | apply Ok_put)); assumption)) only [go_sem, ↓reduceIte, hgD, eE, hxE, ha, eF, hxF, ho, eG, hxG]
  have pinG : Pin { pc with flags := Ms.odd pc.flags, a := inc pc.a, op := inc pc.op } := pin.odd.incA.incO
  refine WC.imp (fs_lay KG wkE (by omega) (pc := { pc with flags := Ms.odd pc.flags, a := inc pc.a, op := inc pc.op }) pinG) ?_
  rintro _ hH ⟨rfl, nsH, KH⟩
  have wkH := wkE.lay { pc with flags := Ms.odd pc.flags, a := inc pc.a, op := inc pc.op }
  have gH := lay_grow { wD with cur := w9.blocks.length } { pc with flags := Ms.odd pc.flags, a := inc pc.a, op := inc pc.op }
  have okH := KH.ok
  have hxH := (KH.kp _ (List.mem_cons_self ..)).1
  unfold encP at hxH
  simp (maxSteps := 1000000) (disch := first | omega | assumption | (simp only [List.length_cons, List.length_nil, Nat.reduceAdd]; done) | (simp only [inHid_nil']; done) | ((repeat (first | apply Ok_push | apply Ok_put)); assumption)) only [go_sem, ↓reduceIte, hxH]
  refine WC.imp (fs_newest KH wkH (by omega) hl (pc := { pc with flags := Ms.odd pc.flags, a := inc pc.a, op := inc pc.op }) pinG) ?_
  rintro _ hI ⟨rfl, nsI, KI⟩
  have wkI := wkH.new (pk pc.c 2) { pc with flags := Ms.odd pc.flags, a := inc pc.a, op := inc pc.op }
  have gI := newest_grow (layS { wD with cur := w9.blocks.length } { pc with flags := Ms.odd pc.flags, a := inc pc.a, op := inc pc.op }) (pk pc.c 2) { pc with flags := Ms.odd pc.flags, a := inc pc.a, op := inc pc.op }
  have okI := KI.ok
  have hxI := (KI.kp _ (List.mem_cons_self ..)).1
  unfold encP at hxI
  obtain ⟨x, ex⟩ : ∃ x, x = newestS (layS { wD with cur := w9.blocks.length } { pc with flags := Ms.odd pc.flags, a := inc pc.a, op := inc pc.op }) (pk pc.c 2) { pc with flags := Ms.odd pc.flags, a := inc pc.a, op := inc pc.op } := ⟨_, rfl⟩
  rw [← ex] at KI wkI gI
  rw [← ex]
  simp (maxSteps := 1000000) (disch := first | omega | assumption | (simp only [List.length_cons, List.length_nil, Nat.reduceAdd]; done) | (simp only [inHid_nil']; done) | ((repeat (first | apply Ok_push | apply Ok_put)); assumption)) only [go_sem, ↓reduceIte, hxI]
  refine WC.imp (fs_newest KI wkI (by omega) (cls := 0) (by omega) (pc := { pc with flags := Ms.odd pc.flags, a := inc pc.a, op := inc pc.op }) pinG) ?_
  rintro _ hJ ⟨rfl, nsJ, KJ⟩
  have wkJ := wkI.new 0 { pc with flags := Ms.odd pc.flags, a := inc pc.a, op := inc pc.op }
  have gJ := newest_grow x.2 0 { pc with flags := Ms.odd pc.flags, a := inc pc.a, op := inc pc.op }
  have okJ := KJ.ok
  obtain ⟨y, ey⟩ : ∃ y, y = newestS x.2 0 { pc with flags := Ms.odd pc.flags, a := inc pc.a, op := inc pc.op } := ⟨_, rfl⟩
  rw [← ey] at KJ wkJ gJ
  rw [← ey]
  simp (maxSteps := 1000000) (disch := first | omega | assumption | (simp only [List.length_cons, List.length_nil, Nat.reduceAdd]; done) | (simp only [inHid_nil']; done) | ((repeat (first | apply Ok_push | apply Ok_put)); assumption)) only [go_sem, ↓reduceIte]
  have KJ' := KJ.push (a := .arr [si (x.1 : Nat), si (y.1 : Nat)] 3)
  have lD : wD.blocks.length = w9.blocks.length + 2 := by rw [gD.2, gC.2, bB]
  have lH : ({ wD with cur := w9.blocks.length } : Ms).blocks.length = w9.blocks.length + 2 := lD
  refine WC.imp (fs_edge2 KJ' (fun r hr => by have := (KJ.kp r hr).2.2.1; omega) hpos wkJ (by omega) (a := w9.blocks.length) (to := u.2.blocks.length) (by omega)) ?_
  rintro _ hK ⟨rfl, nsK, KK⟩
  have wkK := wkJ.edge w9.blocks.length u.2.blocks.length [x.1, y.1]
  have gK := edge_grow y.2 w9.blocks.length u.2.blocks.length [x.1, y.1]
  have okK := KK.ok
  obtain ⟨wK, eK⟩ : ∃ wK, wK = edgeS y.2 w9.blocks.length u.2.blocks.length [x.1, y.1] := ⟨_, rfl⟩
  rw [← eK] at KK wkK gK
  have kD : wD.known.length = w9.known.length := by rw [gD.1, gC.1, vB]
  have kH : ({ wD with cur := w9.blocks.length } : Ms).known.length = w9.known.length := kD
  have kK : w9.known.length ≤ wK.known.length := by rw [gK.1]; have := gH.1; have := gI.1; have := gJ.1; omega
  obtain ⟨aK, bK, cK, xK, yK, hL, nsL, hgK, eK1, eK2, okL, hpL, KL⟩ := KK.take hlen9 kK (by have := wkK.nk; omega)
  have hgL := hpL.trans hgK
  obtain ⟨hM, eM⟩ : ∃ hM, hL.put p (some (.arr [si wK.m.1, si wK.m.2, aK, bK, si wK.cur, yK, si wK.all] tt.mas)) = hM := ⟨_, rfl⟩
  rw [eM] at KL
  have okM := KL.ok
  obtain ⟨aM, bM, cM, hgM, klM, blM⟩ := KL.cells
  have KN := KL.setcur (j := w9.blocks.length + 1) hgM
  simp (maxSteps := 1000000) (disch := first | omega | assumption | (simp only [List.length_cons, List.length_nil, Nat.reduceAdd]; done) | (simp only [inHid_nil']; done) | ((repeat (first | apply Ok_push | apply Ok_put)); assumption)) only [go_sem, ↓reduceIte, hgK, eK1, eK2, hgL, pop_slice_hi, eM, hgM]
  have hfin : loopS w pc = { wK with known := wK.known.take w9.known.length, cur := w9.blocks.length + 1 } := by
    have hp : (w4.blocks.getD u.2.blocks.length ⟨[], [], []⟩).params = blk.params := by rw [List.getD_eq_getElem?_getD, hblk, Option.getD_some]
    rw [← hp] at ew7
    subst eK ey ex eD eB e9 ew7 e4 e3 eu ev
    rfl
  rw [hfin]
  exact ⟨_, KN.mr, KN.mv⟩
end Go.Proofs.Ytaljcpoopmedmaa.Ev

/- Code of functions as the interpreter has it prepared, cut at loops. -/
namespace Go.Proofs.Ytaljcpoopmedmaa.Ev
open Go Go.RowKit
set_option linter.unusedVariables false
set_option maxRecDepth 100000
def dr1_funD : IC := (.draw [((.mk .none (.p (.mv (.g 11))) .none), .none), ((.mk .none (.p (.nchk (.l 0))) .none), .none), ((.mk .none (.p (.fld 2 (.l 0))) .none), .none), ((.mk .none (.p (.fld 1 (.l 0))) .none), .none), ((.mk .none (.a (.load 1 false (.l 0))) .none), (.some [])), ((.mk .none (.p (.len (.l 0))) .none), .none), ((.mk .none (.p (.bin .add (.l 0) (.c (.s (.int .i64 3))))) .none), .none), ((.mk .none (.p (.bin .le (.l 0) (.c (.s (.int .i64 16))))) .none), .none), ((.mk .none (.p (.mv (.l 0))) .none), .none), ((.mk .none (.p (.mv (.g 11))) (.some (0, true))), .none), ((.mk .none (.p (.nchk (.l 0))) (.some (1, true))), .none), ((.mk .none (.p (.fld 2 (.l 0))) (.some (2, true))), .none), ((.mk .none (.p (.fld 1 (.l 0))) (.some (3, true))), .none), ((.mk .none (.a (.load 1 false (.l 0))) (.some (4, true))), (.some [])), ((.mk .none (.p (.mv (.g 11))) (.some (5, true))), .none), ((.mk .none (.p (.nchk (.l 0))) (.some (6, true))), .none), ((.mk .none (.p (.fld 4 (.l 0))) (.some (7, true))), .none), ((.mk .none (.a (.load 1 false (.l 0))) (.some (8, true))), (.some [3])), ((.mk .none (.p (.ixs 3 (.l 4) (.l 0))) (.some (9, true))), .none), ((.mk .none (.p (.fld 1 (.l 0))) (.some (10, true))), .none), ((.mk .none (.a (.load 1 false (.l 0))) (.some (11, true))), .none), ((.mk .none (.p (.len (.l 0))) (.some (12, true))), .none), ((.mk .none (.p (.bin .lt (.l 0) (.c (.s (.int .i64 20))))) (.some (13, true))), .none), ((.mk .none (.p (.pick (.l 14) (.l 0) (.c (.s (.bool false))))) .none), .none), ((.mk .none (.p (.mv (.l 0))) .none), .none), ((.mk .none (.p (.mv (.g 11))) (.some (0, true))), .none), ((.mk .none (.p (.nchk (.l 0))) (.some (1, true))), .none), ((.mk .none (.p (.fld 2 (.l 0))) (.some (2, true))), .none), ((.mk .none (.p (.fld 0 (.l 0))) (.some (3, true))), .none), ((.mk .none (.a (.load 1 false (.l 0))) (.some (4, true))), .none), ((.mk .none (.p (.len (.l 0))) (.some (5, true))), .none), ((.mk .none (.p (.bin .lt (.l 0) (.c (.s (.int .i64 110))))) (.some (6, true))), .none), ((.mk .none (.p (.pick (.l 7) (.l 0) (.c (.s (.bool false))))) .none), .none), ((.mk (.some 6) (.p (.mv (.l 0))) .none), .none)])
def dr2_funD : IC := (.draw [((.mk .none (.p (.mv (.g 11))) .none), .none), ((.mk .none (.p (.nchk (.l 0))) .none), .none), ((.mk .none (.p (.fld 2 (.l 0))) .none), .none), ((.mk .none (.p (.fld 1 (.l 0))) .none), .none), ((.mk .none (.a (.load 1 false (.l 0))) .none), (.some [])), ((.mk .none (.p (.mv (.g 11))) .none), .none), ((.mk .none (.p (.nchk (.l 0))) .none), .none), ((.mk .none (.p (.fld 4 (.l 0))) .none), .none), ((.mk .none (.a (.load 1 false (.l 0))) .none), (.some [3])), ((.mk .none (.p (.ixs 3 (.l 4) (.l 0))) .none), .none), ((.mk .none (.p (.fld 1 (.l 0))) .none), .none), ((.mk .none (.a (.load 1 false (.l 0))) .none), .none), ((.mk .none (.p (.len (.l 0))) .none), .none), ((.mk .none (.p (.bin .lt (.l 0) (.c (.s (.int .i64 20))))) .none), .none), ((.mk .none (.p (.mv (.l 0))) .none), .none), ((.mk .none (.p (.mv (.g 11))) (.some (0, true))), .none), ((.mk .none (.p (.nchk (.l 0))) (.some (1, true))), .none), ((.mk .none (.p (.fld 2 (.l 0))) (.some (2, true))), .none), ((.mk .none (.p (.fld 0 (.l 0))) (.some (3, true))), .none), ((.mk .none (.a (.load 1 false (.l 0))) (.some (4, true))), .none), ((.mk .none (.p (.len (.l 0))) (.some (5, true))), .none), ((.mk .none (.p (.bin .lt (.l 0) (.c (.s (.int .i64 120))))) (.some (6, true))), .none), ((.mk .none (.p (.pick (.l 7) (.l 0) (.c (.s (.bool false))))) .none), .none), ((.mk (.some 3) (.p (.mv (.l 0))) .none), .none)])
def sq1_funD : IC := (.seq (.block 1 (.seq (.region [(.mk .none (.p (.mv (.g 1))) .none), (.mk .none (.p (.mv (.g 10))) .none), (.mk .none (.p (.ixs 7 (.l 1) (.l 0))) .none), (.mk .none (.a (.load 7 true (.l 0))) .none), (.mk (.some 8) (.a (.new 72 [(.int .i64 0), (.int .i64 0), (.int .i64 0), (.int .i64 0), (.int .i64 0), (.int .i64 0), (.int .i64 0)])) .none), (.mk .none (.a (.store 7 (.l 0) (.l 1))) .none)]) (.seq dr1_funD (.seq (.region [(.mk .none (.p (.fld 0 (.g 8))) .none), (.mk .none (.a (.load 1 false (.l 0))) .none), (.mk .none (.a (.call 26 [(.l 0), (.c (.s (.int .i64 6)))])) .none), (.mk (.some 7) (.p (.mv (.l 0))) .none)]) (.block 2 (.seq (.region [(.mk .none (.p (.mv (.g 7))) .none), (.mk .none (.p (.bin .eq (.l 0) (.c (.s (.int .i64 0))))) .none), (.mk .none (.p (.mv (.l 0))) .none), (.mk .none (.p (.mv (.g 6))) (.some (0, true))), (.mk .none (.p (.pick (.l 1) (.l 0) (.c (.s (.bool false))))) .none), (.mk (.some 5) (.p (.mv (.l 0))) .none)]) (.cond (.g 5) (.region [(.mk .none (.p (.mv (.g 11))) .none), (.mk .none (.a (.load 7 true (.g 8))) .none), (.mk .none (.a (.call 30 [(.l 1), (.l 0)])) .none)]) (.seq (.region [(.mk .none (.p (.mv (.g 7))) .none), (.mk .none (.p (.bin .eq (.l 0) (.c (.s (.int .i64 1))))) .none), (.mk .none (.p (.mv (.l 0))) .none), (.mk .none (.p (.mv (.g 6))) (.some (0, true))), (.mk .none (.p (.pick (.l 1) (.l 0) (.c (.s (.bool false))))) .none), (.mk (.some 4) (.p (.mv (.l 0))) .none)]) (.cond (.g 4) (.region [(.mk .none (.p (.mv (.g 11))) .none), (.mk .none (.a (.load 7 true (.g 8))) .none), (.mk .none (.a (.call 31 [(.l 1), (.l 0)])) .none)]) (.seq dr2_funD (.cond (.g 3) (.region [(.mk .none (.p (.mv (.g 11))) .none), (.mk .none (.a (.load 7 true (.g 8))) .none), (.mk .none (.a (.call 32 [(.l 1), (.l 0)])) .none)]) .skip))))))))))) (.region [(.mk .none (.p (.mv (.g 10))) .none), (.mk .none (.p (.bin .add (.l 0) (.c (.s (.int .i64 1))))) .none), (.mk (.some 10) (.p (.mv (.l 0))) .none)]))
def lp1_funD : IC := (.seq (.seq (.region [(.mk .none (.p (.mv (.g 10))) .none), (.mk .none (.p (.mv (.g 1))) .none), (.mk .none (.p (.len (.l 0))) .none), (.mk .none (.p (.bin .lt (.l 2) (.l 0))) .none), (.mk .none (.p (.mv (.l 0))) .none), (.mk .none (.p (.mv (.g 10))) (.some (0, true))), (.mk .none (.p (.bin .lt (.l 0) (.c (.s (.int .i64 24))))) (.some (1, true))), (.mk (.some 9) (.p (.pick (.l 2) (.l 0) (.c (.s (.bool false))))) .none)]) (.cond (.g 9) .skip (.exit 0))) sq1_funD)
def bd_funD : IC := (.seq (.region [(.mk (.some 12) (.a (.box 30 (.g 0))) .none), (.mk (.some 2) (.a (.new 26 [.nilSlice, .nilSlice])) .none)]) (.seq (.region [(.mk .none (.a (.load 2 true (.g 12))) .none), (.mk .none (.p (.build [(.int .i64 0), (.int .i64 0), .nilSlice, .nilSlice, (.int .i64 0), .nilSlice, (.int .i64 0)] [(0, (2, (.l 0)))])) .none), (.mk .none (.a (.box 69 (.l 0))) .none), (.mk (.some 11) (.p (.mv (.l 0))) .none)]) (.seq (.region [(.mk .none (.p (.mv (.g 11))) .none), (.mk .none (.a (.call 29 [(.l 0), (.c (.s .nilSlice))])) .none)]) (.seq (.seq (.region [(.mk (.some 10) (.p (.mv (.c (.s (.int .i64 0))))) .none)]) (.block 0 (.loop lp1_funD))) (.seq (.region [(.mk .none (.p (.mv (.g 11))) .none), (.mk .none (.p (.build [(.int .i64 0), (.int .i64 0), (.int .i64 0), (.int .i64 0), (.int .i64 0), (.int .i64 0), (.int .i64 0)] [(2, (1, (.c (.s (.int .i64 1))))), (6, (1, (.c (.s (.int .i64 3)))))])) .none), (.mk .none (.a (.call 32 [(.l 1), (.l 0)])) .none)]) (.seq (.region [(.mk .none (.p (.mv (.g 11))) .none), (.mk .none (.p (.nchk (.l 0))) .none), (.mk .none (.p (.fld 2 (.l 0))) .none), (.mk .none (.a (.load 2 true (.l 0))) .none), (.mk .none (.a (.store 2 (.g 2) (.l 0))) .none)]) .ret))))))
theorem T_funD : T 16 = some (.mk bd_funD 2 11 [(.cell 2 2 true)]) := by kernel_rfl
end Go.Proofs.Ytaljcpoopmedmaa.Ev

/- Functions built of pieces: is there room? -/
namespace Go.Proofs.Ytaljcpoopmedmaa.Ev
open Go Go.RowKit Go.Proofs.Ytaljcpoopmedmaa.Ms
attribute [local go_sem] LD_head_callk zkH_some contH_hide W_skip W_ret W_exit W_seq W_block LW_cond zcO_bool W_region W_draw WO_nil LO_pure zpO_some LO_call zkO_some contO_eq LO_guard zgO_bool zgO_undef zmO_some WD_nil LD_pure zpD_some zmD_some LD_call zkD_some contD_eq LD_guard zgD_bool zgD_undef LD_head_pure zhpD_some LD_head_load zhlD_some LD_head_bslice zhaD_some zhbD_some thenQ_normal thenQ_exit thenQ_ret blkQ_normal blkQ_exit blkQ_ret loopQ_normal loopQ_exit loopQ_ret LO_new LO_box LO_bslice LO_mkslice LO_load LO_store LO_app LO_copy LO_clear LO_mkmap LO_look LO_mupd LO_slicea LO_boxc LD_new LD_box LD_bslice LD_mkslice LD_load LD_store LD_app LD_copy LD_clear LD_mkmap LD_look LD_mupd LD_slicea LD_boxc ev_l ev_g ev_c evs_nil evs_cons lget_zero lget_succ lset_zero lset_succ putD_none putD_some undefs_zero undefs_succ ob_s ob_n oif_ite svc_s svc_undef vInt_int vBool_bool sInt_int sBool_bool cel_s cel_agg mkAV_f mkAV_t celA_s celA_agg ltake_zero ltake_succ ldrop_zero ldrop_succ ldrop_nil llen_nil llen_cons lover_nil lover_cons loverAt_zero loverAt_succ nbeq_refl nbeq_eq nble_eq Lp_mm mmV_min mmV_max pop_mv Lp_pick pickO_bool pop_build fill_nil fill_cons Lp_bin binV_some pop_not pop_neg Lp_fld fldV_ptr fldV_cp pop_fval Lp_ext extO_tup mk1_some Lp_nchk nchkV_ptr nchkV_cp pop_conv pop_mkfun ptrs_nil ptrs_cons capAVs_nil capAVs_cons sPtrC_ptr sPtrC_cp sPtr_ptr Lp_len lenO_some lenV_nil lenV_lst lenV_slice numS_64 bin_add bin_sub bin_mul bin_quo_pos bin_rem_pos bin_shr_pos bin_eq bin_ne bin_lt bin_le bin_gt bin_ge Lp_ixs ixsO_some Lp_ixa ixaO_some Lr_one re1_f re1_t Lr_tmp reT_s reT_agg Lr_cell reP_some reC_ptr outP_some Lret_normal Lret_ret resAll_nil resAll_cons result_nil Lr_two re2_some ok_eq rdB_arr wrB_arr La_load loadO_ptr loadO_cp ldR_t ldR_f La_store stR_some La_mkslice mksO_some La_app appO_some bsO_some boxO_s boxO_agg fpV_ptr fpV_cp sel_nil sel_cons inHid_nil' inHid_cons' LV_ptr LV_cp mkL_t mkL_f Int.cast_ofNat_Int Int.natCast_zero Int.natCast_one decide_eq_true_eq decide_eq_false_iff_not Bool.false_eq_true and_true true_and List.cons_append List.nil_append reduceCtorEq decide_true decide_false Bool.not_true Bool.not_false Nat.add_zero Nat.zero_add Option.some.injEq Bool.true_eq_false not_true_eq_false not_false_eq_true Hp.next_push Hp.next_put Nat.add_assoc self_add add_self ixsV_slice1 ixaV_ptr ixaV_cp ixaV_ptr0 ixaV_ptr1 ixaV_cp0 ixaV_cp1 hid_ok get_hide La_bslice La_box aop_new storeO_s storeO_agg get_push get_put mksV_two ixsV_slice0 ixsV_slice Int.reduceToNat Nat.reduceAdd Nat.reduceMul Nat.reduceEqDiff Int.reduceEq Int.reduceLT Int.reduceLE Int.reduceNeg Int.reduceAdd Int.reduceSub Int.reduceMul Int.reduceNe
set_option linter.unusedVariables false
set_option linter.unusedSimpArgs false
set_option linter.unusedSectionVars false
set_option maxRecDepth 100000
set_option maxHeartbeats 2000000
theorem FS.cur {h0 hi : Hp} {p : Nat} {w : Ms} {ns ns' : List Nat} {L : List (Nat × AB)} (k : FS h0 hi p w ns L ns') (hc : w.cur < w.blocks.length) : ∃ a b c bb ia, hi.get p = some (.arr [si w.m.1, si w.m.2, a, b, si w.cur, c, si w.all] tt.mas) ∧ lenV (.s a) = some (vi w.values.length) ∧ lenV (.s b) = some (vi w.blocks.length) ∧
    ixsV 3 (.s b) (vi (w.cur : Int)) = some (.s (.ptr bb (w.cur * 3))) ∧ rdB (hi.get bb) (w.cur * 3 + 1) 1 = some [ia] ∧ lenV (.s ia) = some (vi (lenOf w)) := by
  obtain ⟨⟨a, b, c, n1, n2, n3, h1, h2, h3, h4, e⟩, h5, h6⟩ := k.mr
  obtain ⟨blk, hblk⟩ : ∃ blk, w.blocks[w.cur]? = some blk := ⟨_, List.getElem?_eq_getElem hc⟩
  obtain ⟨bb, row, ms, ix, hrd, hrl, ⟨pp, ia, ee, na, nb, nc, rfl, sp, sI, sE, rfl⟩, hms, hbb⟩ := h3.at hblk
  have rd1 := rdB_field (j := 1) (c := ia) hrd rfl
  refine ⟨a, b, c, bb, ia, h1, h2.len, h3.len, ix, rd1, ?_⟩
  rw [sI.len]
  unfold lenOf
  rw [List.getD_eq_getElem?_getD, hblk, Option.getD_some]
def room (w : Ms) : Bool := decide (w.blocks.length + 3 ≤ 16) && (decide (lenOf w < 20) && decide (w.values.length < 110))
theorem room_ok {h0 hi : Hp} {p : Nat} {w : Ms} {ns ns' : List Nat} {L : List (Nat × AB)} (k : FS h0 hi p w ns L ns') (hc : w.cur < w.blocks.length) (h1 : w.blocks.length ≤ 100000) {x0 x1 x2 x3 x4 x5 x6 x7 x8 x9 x10 x12 : AV} {Q : Ex → St → Prop}
    (hQ : Q .normal (.mk [x0, x1, x2, x3, x4, x5, vb (room w), x7, x8, x9, x10, .s (.ptr p 0), x12] hi)) : W F2 dr1_funD (.mk [x0, x1, x2, x3, x4, x5, x6, x7, x8, x9, x10, .s (.ptr p 0), x12] hi) Q := by
  unfold dr1_funD
  obtain ⟨a, b, c, bb, ia, hg, vl, bl, ix, rd1, il⟩ := k.cur hc
  have ok := k.ok
  unfold room at hQ
  by_cases c1 : (w.blocks.length : Int) + 3 ≤ 16
  · have e1 : decide (w.blocks.length + 3 ≤ 16) = true := decide_eq_true (by omega)
    rw [e1] at hQ
    by_cases c2 : (lenOf w : Int) < 20
    · have e2 : decide (lenOf w < 20) = true := decide_eq_true (by omega)
      rw [e2] at hQ
      by_cases c3 : (w.values.length : Int) < 110
      · have e3 : decide (w.values.length < 110) = true := decide_eq_true (by omega)
        rw [e3] at hQ
        simp (maxSteps := 1000000) (disch := first | omega | assumption | (simp only [List.length_cons, List.length_nil, Nat.reduceAdd]; done) | (simp only [inHid_nil']; done) | ((repeat (first | apply Ok_push | apply Ok_put)); assumption)) only [go_sem, ↓reduceIte, hg, vl, bl, ix, rd1, il, w64_ok, eq_true c1, eq_true c2, eq_true c3]
        exact hQ
      · have e3 : decide (w.values.length < 110) = false := decide_eq_false (by omega)
        rw [e3] at hQ
        simp (maxSteps := 1000000) (disch := first | omega | assumption | (simp only [List.length_cons, List.length_nil, Nat.reduceAdd]; done) | (simp only [inHid_nil']; done) | ((repeat (first | apply Ok_push | apply Ok_put)); assumption)) only [go_sem, ↓reduceIte, hg, vl, bl, ix, rd1, il, w64_ok, eq_true c1, eq_true c2, eq_false c3]
        exact hQ
    · have e2 : decide (lenOf w < 20) = false := decide_eq_false (by omega)
      rw [e2] at hQ
      simp (maxSteps := 1000000) (disch := first | omega | assumption | (simp only [List.length_cons, List.length_nil, Nat.reduceAdd]; done) | (simp only [inHid_nil']; done) | ((repeat (first | apply Ok_push | apply Ok_put)); assumption)) only [go_sem, ↓reduceIte, hg, vl, bl, ix, rd1, il, w64_ok, eq_true c1, eq_false c2]
      exact hQ
  · have e1 : decide (w.blocks.length + 3 ≤ 16) = false := decide_eq_false (by omega)
    rw [e1] at hQ
    simp (maxSteps := 1000000) (disch := first | omega | assumption | (simp only [List.length_cons, List.length_nil, Nat.reduceAdd]; done) | (simp only [inHid_nil']; done) | ((repeat (first | apply Ok_push | apply Ok_put)); assumption)) only [go_sem, ↓reduceIte, hg, vl, bl, ix, rd1, il, w64_ok, eq_false c1]
    exact hQ
def room2 (w : Ms) : Bool := decide (lenOf w < 20) && decide (w.values.length < 120)
theorem room2_ok {h0 hi : Hp} {p : Nat} {w : Ms} {ns ns' : List Nat} {L : List (Nat × AB)} (k : FS h0 hi p w ns L ns') (hc : w.cur < w.blocks.length) {x0 x1 x2 x3 x4 x5 x6 x7 x8 x9 x10 x12 : AV} {Q : Ex → St → Prop}
    (hQ : Q .normal (.mk [x0, x1, x2, vb (room2 w), x4, x5, x6, x7, x8, x9, x10, .s (.ptr p 0), x12] hi)) : W F2 dr2_funD (.mk [x0, x1, x2, x3, x4, x5, x6, x7, x8, x9, x10, .s (.ptr p 0), x12] hi) Q := by
  unfold dr2_funD
  obtain ⟨a, b, c, bb, ia, hg, vl, bl, ix, rd1, il⟩ := k.cur hc
  have ok := k.ok
  unfold room2 at hQ
  by_cases c2 : (lenOf w : Int) < 20
  · have e2 : decide (lenOf w < 20) = true := decide_eq_true (by omega)
    rw [e2] at hQ
    by_cases c3 : (w.values.length : Int) < 120
    · have e3 : decide (w.values.length < 120) = true := decide_eq_true (by omega)
      rw [e3] at hQ
      simp (maxSteps := 1000000) (disch := first | omega | assumption | (simp only [List.length_cons, List.length_nil, Nat.reduceAdd]; done) | (simp only [inHid_nil']; done) | ((repeat (first | apply Ok_push | apply Ok_put)); assumption)) only [go_sem, ↓reduceIte, hg, vl, bl, ix, rd1, il, w64_ok, eq_true c2, eq_true c3]
      exact hQ
    · have e3 : decide (w.values.length < 120) = false := decide_eq_false (by omega)
      rw [e3] at hQ
      simp (maxSteps := 1000000) (disch := first | omega | assumption | (simp only [List.length_cons, List.length_nil, Nat.reduceAdd]; done) | (simp only [inHid_nil']; done) | ((repeat (first | apply Ok_push | apply Ok_put)); assumption)) only [go_sem, ↓reduceIte, hg, vl, bl, ix, rd1, il, w64_ok, eq_true c2, eq_false c3]
      exact hQ
  · have e2 : decide (lenOf w < 20) = false := decide_eq_false (by omega)
    rw [e2] at hQ
    simp (maxSteps := 1000000) (disch := first | omega | assumption | (simp only [List.length_cons, List.length_nil, Nat.reduceAdd]; done) | (simp only [inHid_nil']; done) | ((repeat (first | apply Ok_push | apply Ok_put)); assumption)) only [go_sem, ↓reduceIte, hg, vl, bl, ix, rd1, il, w64_ok, eq_false c2]
    exact hQ
/-! ### the builder may be, whatever pieces come -/
theorem val_lay (w : Ms) (p : Pc) : w.values.length ≤ (layS w p).values.length := by
  obtain ⟨cs, h1, h2, h3⟩ := instrS_w w p
  show _ ≤ (instrS w p).2.values.length
  rw [h3]; simp
theorem val_newest (w : Ms) (c : Nat) (p : Pc) : w.values.length ≤ (newestS w c p).2.values.length := by
  unfold newestS
  split
  · exact Nat.le_refl _
  · exact val_lay _ _
theorem val_tail (w : Ms) (cls before e k : Nat) (q : Pc) : w.values.length ≤ (tailS w cls before e k q).values.length :=
  Nat.le_trans (val_newest w cls q) (val_newest _ 0 q)
theorem val_way (q : Pc) (cls before e k : Nat) (lay : Bool) (w : Ms) : w.values.length ≤ (wayS q cls before e k lay w).2.values.length := by
  rw [way_2]
  cases lay with
  | true => exact Nat.le_trans (val_lay { w with cur := k } _) (val_tail _ _ _ _ _ _)
  | false => exact val_tail { w with cur := k } _ _ _ _ _
theorem Wok.le {w : Ms} {N M : Nat} (wk : Wok w N) (h : N ≤ M) : Wok w M := ⟨wk.m1, wk.m2, wk.vals, wk.known, wk.cur, Nat.le_trans wk.nv h, Nat.le_trans wk.nb h, Nat.le_trans wk.nk h, fun b hb => by have := wk.ni b hb; omega, Nat.le_trans wk.na h⟩
theorem Wok.fork {w : Ms} {N : Nat} (wk : Wok w N) (pc : Pc) : Wok (forkS w pc) (N + 100) := by
  have hl := pk_lt (n := pc.c) (m := 2) (by omega)
  have wk1 := wk.lay pc
  have gl := lay_grow w pc
  obtain ⟨w1, e1⟩ : ∃ w1, w1 = layS w pc := ⟨_, rfl⟩
  rw [← e1] at wk1 gl
  have wk4 := ((wk1.block [] (by simp) (by simp)).block [] (by simp) (by simp)).block [pk pc.c 2, 0] (by simp) (by simp; omega)
  have b3 : (blockS (blockS (blockS w1 []) []) [pk pc.c 2, 0]).blocks.length = w1.blocks.length + 3 := by simp [blockS]
  have p3 : pr (blockS (blockS (blockS w1 []) []) [pk pc.c 2, 0]) (w1.blocks.length + 2) = some (List.range' (w1.values.length) 2) := by
    unfold pr blockS
    simp
  have v3 : (blockS (blockS (blockS w1 []) []) [pk pc.c 2, 0]).known = w1.known := rfl
  have n3 : (blockS (blockS (blockS w1 []) []) [pk pc.c 2, 0]).values.length = w1.values.length + 2 := by simp [blockS]
  generalize e4 : blockS (blockS (blockS w1 []) []) [pk pc.c 2, 0] = w4 at *
  have wk6 := (wk4.edge w1.cur w1.blocks.length []).edge w1.cur (w1.blocks.length + 1) []
  have g5 := edge_grow w4 w1.cur w1.blocks.length []
  have g6 := edge_grow (edgeS w4 w1.cur w1.blocks.length []) w1.cur (w1.blocks.length + 1) []
  have p6 : pr (edgeS (edgeS w4 w1.cur w1.blocks.length []) w1.cur (w1.blocks.length + 1) []) (w1.blocks.length + 2) = some (List.range' (w1.values.length) 2) := by rw [pr_edge, pr_edge, p3]
  have n6 : (edgeS (edgeS w4 w1.cur w1.blocks.length []) w1.cur (w1.blocks.length + 1) []).values = w4.values := rfl
  obtain ⟨w6, e6⟩ : ∃ w6, w6 = edgeS (edgeS w4 w1.cur w1.blocks.length []) w1.cur (w1.blocks.length + 1) [] := ⟨_, rfl⟩
  rw [← e6] at wk6 g6 p6 n6
  have hkn : w6.known.length = w1.known.length := by rw [g6.1, g5.1, v3]
  have l8 := way_len (q := pc) (cls := pk pc.c 2) (before := w1.known.length) (e := w1.blocks.length + 2) (k := w1.blocks.length) (lay := true) (w := w6) (by omega)
  have wk8 := wk6.way pc (pk pc.c 2) w1.known.length (w1.blocks.length + 2) w1.blocks.length true (by omega)
  have p8 := (pr_way pc (pk pc.c 2) w1.known.length (w1.blocks.length + 2) w1.blocks.length true w6 (w1.blocks.length + 2)).trans p6
  have n8 := val_way pc (pk pc.c 2) w1.known.length (w1.blocks.length + 2) w1.blocks.length true w6
  obtain ⟨x, ex⟩ : ∃ x, x = wayS pc (pk pc.c 2) w1.known.length (w1.blocks.length + 2) w1.blocks.length true w6 := ⟨_, rfl⟩
  rw [← ex] at l8 wk8 p8 n8
  have l9 := way_len (q := x.1) (cls := pk pc.c 2) (before := w1.known.length) (e := w1.blocks.length + 2) (k := w1.blocks.length + 1) (lay := decide (pk pc.flags 2 = 1)) (w := x.2) (by omega)
  have wk9 := wk8.way x.1 (pk pc.c 2) w1.known.length (w1.blocks.length + 2) (w1.blocks.length + 1) (decide (pk pc.flags 2 = 1)) (by omega)
  have p9 := (pr_way x.1 (pk pc.c 2) w1.known.length (w1.blocks.length + 2) (w1.blocks.length + 1) (decide (pk pc.flags 2 = 1)) x.2 (w1.blocks.length + 2)).trans p8
  have n9 := val_way x.1 (pk pc.c 2) w1.known.length (w1.blocks.length + 2) (w1.blocks.length + 1) (decide (pk pc.flags 2 = 1)) x.2
  obtain ⟨y, ey⟩ : ∃ y, y = wayS x.1 (pk pc.c 2) w1.known.length (w1.blocks.length + 2) (w1.blocks.length + 1) (decide (pk pc.flags 2 = 1)) x.2 := ⟨_, rfl⟩
  rw [← ey] at l9 wk9 p9 n9
  obtain ⟨blk, hblk, hpar⟩ := Option.map_eq_some_iff.1 p9
  have hfin : forkS w pc = { y.2 with cur := w1.blocks.length + 2, known := y.2.known ++ blk.params } := by
    have h1 : forkS w pc = { y.2 with cur := w1.blocks.length + 2, known := y.2.known ++ (y.2.blocks.getD (w1.blocks.length + 2) ⟨[], [], []⟩).params } := by
      subst ey ex e6 e4 e1
      rfl
    rw [h1, List.getD_eq_getElem?_getD, hblk, Option.getD_some]
  rw [hfin]
  refine ((wk9.setcur (j := w1.blocks.length + 2) (by omega)).params (l := blk.params) (fun v hv => ?_) (by rw [hpar]; simp)).le (by omega)
  rw [hpar] at hv
  have h1 := (List.mem_range'_1.1 hv).2
  have h2 : w6.values.length = w1.values.length + 2 := by rw [n6, n3]
  show v < y.2.values.length
  omega
theorem Wok.mloop {w : Ms} {N : Nat} (wk : Wok w N) (pc : Pc) : Wok (loopS w pc) (N + 100) := by
  have hl := pk_lt (n := pc.c) (m := 2) (by omega)
  have wk1 := wk.new (pk pc.c 2) pc
  obtain ⟨v, ev⟩ : ∃ v, v = newestS w (pk pc.c 2) pc := ⟨_, rfl⟩
  rw [← ev] at wk1
  have wk2 := wk1.new 0 pc
  obtain ⟨u, eu⟩ : ∃ u, u = newestS v.2 0 pc := ⟨_, rfl⟩
  rw [← eu] at wk2
  have wk3 := wk2.block [pk pc.c 2, 0] (by simp) (by simp; omega)
  have b3 : (blockS u.2 [pk pc.c 2, 0]).blocks.length = u.2.blocks.length + 1 := by simp [blockS]
  have p3 : pr (blockS u.2 [pk pc.c 2, 0]) u.2.blocks.length = some (List.range' u.2.values.length 2) := by
    unfold pr blockS
    simp
  have n3 : (blockS u.2 [pk pc.c 2, 0]).values.length = u.2.values.length + 2 := by simp [blockS]
  generalize e3 : blockS u.2 [pk pc.c 2, 0] = w3 at *
  have wk4 := wk3.edge w3.cur u.2.blocks.length [v.1, u.1]
  have g4 := edge_grow w3 w3.cur u.2.blocks.length [v.1, u.1]
  have p4 := (pr_edge w3 w3.cur u.2.blocks.length [v.1, u.1] u.2.blocks.length).trans p3
  have n4 : (edgeS w3 w3.cur u.2.blocks.length [v.1, u.1]).values = w3.values := rfl
  generalize e4 : edgeS w3 w3.cur u.2.blocks.length [v.1, u.1] = w4 at *
  obtain ⟨blk, hblk, hpar⟩ := Option.map_eq_some_iff.1 p4
  have wk5 := wk4.setcur (j := u.2.blocks.length) (by omega)
  have wk7 : Wok { w4 with cur := u.2.blocks.length, known := w4.known ++ blk.params } _ := wk5.params (l := blk.params) (fun v hv => by
    rw [hpar] at hv
    have := (List.mem_range'_1.1 hv).2
    show v < w4.values.length
    rw [n4, n3]; exact this) (by rw [hpar]; simp)
  obtain ⟨w7, ew7⟩ : ∃ w7 : Ms, w7 = { w4 with cur := u.2.blocks.length, known := w4.known ++ blk.params } := ⟨_, rfl⟩
  rw [← ew7] at wk7
  have l7 : w7.blocks.length = w4.blocks.length := by rw [ew7]
  have wk9 := wk7.lay { pc with flags := Ms.odd pc.flags }
  have g9 := lay_grow w7 { pc with flags := Ms.odd pc.flags }
  obtain ⟨w9, e9⟩ : ∃ w9, w9 = layS w7 { pc with flags := Ms.odd pc.flags } := ⟨_, rfl⟩
  rw [← e9] at wk9 g9
  have wkB := (wk9.block [] (by simp) (by simp)).block [] (by simp) (by simp)
  have bB : (blockS (blockS w9 []) []).blocks.length = w9.blocks.length + 2 := by simp [blockS]
  generalize eB : blockS (blockS w9 []) [] = wB at *
  have wkD := (wkB.edge u.2.blocks.length w9.blocks.length []).edge u.2.blocks.length (w9.blocks.length + 1) []
  have gC := edge_grow wB u.2.blocks.length w9.blocks.length []
  have gD := edge_grow (edgeS wB u.2.blocks.length w9.blocks.length []) u.2.blocks.length (w9.blocks.length + 1) []
  obtain ⟨wD, eD⟩ : ∃ wD, wD = edgeS (edgeS wB u.2.blocks.length w9.blocks.length []) u.2.blocks.length (w9.blocks.length + 1) [] := ⟨_, rfl⟩
  rw [← eD] at wkD gD
  have wkH := (wkD.setcur (j := w9.blocks.length) (by omega)).lay { pc with flags := Ms.odd pc.flags, a := inc pc.a, op := inc pc.op }
  have gH := lay_grow { wD with cur := w9.blocks.length } { pc with flags := Ms.odd pc.flags, a := inc pc.a, op := inc pc.op }
  have wkI := wkH.new (pk pc.c 2) { pc with flags := Ms.odd pc.flags, a := inc pc.a, op := inc pc.op }
  have gI := newest_grow (layS { wD with cur := w9.blocks.length } { pc with flags := Ms.odd pc.flags, a := inc pc.a, op := inc pc.op }) (pk pc.c 2) { pc with flags := Ms.odd pc.flags, a := inc pc.a, op := inc pc.op }
  obtain ⟨x, ex⟩ : ∃ x, x = newestS (layS { wD with cur := w9.blocks.length } { pc with flags := Ms.odd pc.flags, a := inc pc.a, op := inc pc.op }) (pk pc.c 2) { pc with flags := Ms.odd pc.flags, a := inc pc.a, op := inc pc.op } := ⟨_, rfl⟩
  rw [← ex] at wkI gI
  have wkJ := wkI.new 0 { pc with flags := Ms.odd pc.flags, a := inc pc.a, op := inc pc.op }
  have gJ := newest_grow x.2 0 { pc with flags := Ms.odd pc.flags, a := inc pc.a, op := inc pc.op }
  obtain ⟨y, ey⟩ : ∃ y, y = newestS x.2 0 { pc with flags := Ms.odd pc.flags, a := inc pc.a, op := inc pc.op } := ⟨_, rfl⟩
  rw [← ey] at wkJ gJ
  have wkK := wkJ.edge w9.blocks.length u.2.blocks.length [x.1, y.1]
  have gK := edge_grow y.2 w9.blocks.length u.2.blocks.length [x.1, y.1]
  obtain ⟨wK, eK⟩ : ∃ wK, wK = edgeS y.2 w9.blocks.length u.2.blocks.length [x.1, y.1] := ⟨_, rfl⟩
  rw [← eK] at wkK gK
  have hfin : loopS w pc = { wK with known := wK.known.take w9.known.length, cur := w9.blocks.length + 1 } := by
    have hp : (w4.blocks.getD u.2.blocks.length ⟨[], [], []⟩).params = blk.params := by rw [List.getD_eq_getElem?_getD, hblk, Option.getD_some]
    rw [← hp] at ew7
    subst eK ey ex eD eB e9 ew7 e4 e3 eu ev
    rfl
  rw [hfin]
  have lH : ({ wD with cur := w9.blocks.length } : Ms).blocks.length = w9.blocks.length + 2 := by
    show wD.blocks.length = _
    rw [gD.2, gC.2, bB]
  exact ((wkK.take (j := w9.known.length)).setcur (j := w9.blocks.length + 1) (by show _ < wK.blocks.length; rw [gK.2, gJ.2, gI.2, gH.2, lH]; omega)).le (by omega)
theorem Wok.piece {w : Ms} {N : Nat} (wk : Wok w N) (pc : Pc) : Wok (pieceS w pc) (N + 100) := by
  unfold pieceS
  simp only
  split
  · exact wk.fork pc
  · split
    · exact wk.mloop pc
    · split
      · exact (wk.lay pc).le (by omega)
      · exact wk.le (by omega)
theorem piece_eq (w : Ms) (p : Pc) : pieceS w p = if pk p.kind 6 = 0 ∧ room w = true then forkS w p else if pk p.kind 6 = 1 ∧ room w = true then loopS w p else if room2 w = true then layS w p else w := by
  unfold pieceS room room2
  simp only [Bool.and_eq_true, decide_eq_true_eq]
end Go.Proofs.Ytaljcpoopmedmaa.Ev

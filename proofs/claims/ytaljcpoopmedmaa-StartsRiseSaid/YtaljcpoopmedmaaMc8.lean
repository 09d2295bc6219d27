/- Functions built of pieces: the pieces, one by one. -/
import Derived.Test.YtaljcpoopmedmaaMc6
namespace Go.Proofs.Ytaljcpoopmedmaa.Ev
open Go Go.RowKit Go.Proofs.Ytaljcpoopmedmaa.Ms
attribute [local go_sem] LD_head_callk zkH_some contH_hide W_skip W_ret W_exit W_seq W_block LW_cond zcO_bool W_region W_draw WO_nil LO_pure zpO_some LO_call zkO_some contO_eq LO_guard zgO_bool zgO_undef zmO_some WD_nil LD_pure zpD_some zmD_some LD_call zkD_some contD_eq LD_guard zgD_bool zgD_undef LD_head_pure zhpD_some LD_head_load zhlD_some LD_head_bslice zhaD_some zhbD_some thenQ_normal thenQ_exit thenQ_ret blkQ_normal blkQ_exit blkQ_ret loopQ_normal loopQ_exit loopQ_ret LO_new LO_box LO_bslice LO_mkslice LO_load LO_store LO_app LO_copy LO_clear LO_mkmap LO_look LO_mupd LO_slicea LO_boxc LD_new LD_box LD_bslice LD_mkslice LD_load LD_store LD_app LD_copy LD_clear LD_mkmap LD_look LD_mupd LD_slicea LD_boxc ev_l ev_g ev_c evs_nil evs_cons lget_zero lget_succ lset_zero lset_succ putD_none putD_some undefs_zero undefs_succ ob_s ob_n oif_ite svc_s svc_undef vInt_int vBool_bool sInt_int sBool_bool cel_s cel_agg mkAV_f mkAV_t celA_s celA_agg ltake_zero ltake_succ ldrop_zero ldrop_succ ldrop_nil llen_nil llen_cons lover_nil lover_cons loverAt_zero loverAt_succ nbeq_refl nbeq_eq nble_eq Lp_mm mmV_min mmV_max pop_mv Lp_pick pickO_bool pop_build fill_nil fill_cons Lp_bin binV_some pop_not pop_neg Lp_fld fldV_ptr fldV_cp pop_fval Lp_ext extO_tup mk1_some Lp_nchk nchkV_ptr nchkV_cp pop_conv pop_mkfun ptrs_nil ptrs_cons capAVs_nil capAVs_cons sPtrC_ptr sPtrC_cp sPtr_ptr Lp_len lenO_some lenV_nil lenV_lst lenV_slice numS_64 bin_add bin_sub bin_mul bin_quo_pos bin_rem_pos bin_shr_pos bin_eq bin_ne bin_lt bin_le bin_gt bin_ge Lp_ixs ixsO_some Lp_ixa ixaO_some Lr_one re1_f re1_t Lr_tmp reT_s reT_agg Lr_cell reP_some reC_ptr outP_some Lret_normal Lret_ret resAll_nil resAll_cons result_nil Lr_two re2_some ok_eq rdB_arr wrB_arr La_load loadO_ptr loadO_cp ldR_t ldR_f La_store stR_some La_mkslice mksO_some La_app appO_some bsO_some boxO_s boxO_agg fpV_ptr fpV_cp sel_nil sel_cons inHid_nil' inHid_cons' LV_ptr LV_cp mkL_t mkL_f Int.cast_ofNat_Int Int.natCast_zero Int.natCast_one decide_eq_true_eq decide_eq_false_iff_not Bool.false_eq_true and_true true_and List.cons_append List.nil_append reduceCtorEq decide_true decide_false Bool.not_true Bool.not_false Nat.add_zero Nat.zero_add Option.some.injEq Bool.true_eq_false not_true_eq_false not_false_eq_true Hp.next_push Hp.next_put Nat.add_assoc self_add add_self ixsV_slice1 ixaV_ptr ixaV_cp ixaV_ptr0 ixaV_ptr1 ixaV_cp0 ixaV_cp1 hid_ok get_hide La_bslice La_box aop_new storeO_s storeO_agg get_push get_put mksV_two ixsV_slice0 ixsV_slice Int.reduceToNat Nat.reduceAdd Nat.reduceMul Nat.reduceEqDiff Int.reduceEq Int.reduceLT Int.reduceLE Int.reduceNeg Int.reduceAdd Int.reduceSub Int.reduceMul Int.reduceNe
set_option linter.unusedVariables false
set_option linter.unusedSimpArgs false
set_option linter.unusedSectionVars false
set_option maxRecDepth 100000
set_option maxHeartbeats 2000000
/-- a list as code sees it: its length, its elements -/
structure LstE {α : Type} (enc : α → List SV) (size : Nat) (x : SV) (l : List α) : Prop where
  len : lenV (.s x) = some (vi l.length)
  at_ : ∀ {i : Nat} {a : α}, l[i]? = some a → ixsV size (.s x) (vi (i : Int)) = some (.s (.cp (enc a)))
  grd : grd x = true
theorem LstE.enc {α : Type} {enc : α → List SV} {size : Nat} {l : List α} (hs : ∀ a, (enc a).length = size) : LstE enc size (encL enc l) l := ⟨lenV_encL, fun h => ixsV_encL h (hs _), grd_encL⟩
theorem LstE.emp {α : Type} {enc : α → List SV} {size : Nat} : LstE enc size (.lst []) [] := ⟨rfl, fun h => by simp at h, rfl⟩
theorem fun_loop {h0 : Hp} {p : Nat} {ns : List Nat} {L : List (Nat × AB)} (hpos : 1 ≤ h0.next) {l : List Pc} (pin : ∀ q ∈ l, Pin q) {xl : SV} (lx : LstE encP 7 xl l) {x0 x2 x12 : AV} {Q : Ex → St → Prop} :
    ∀ (rest done : List Pc) (_ : done ++ rest = l) (_ : done.length ≤ 24) {hi : Hp} {w : Ms} {ns' : List Nat} (_ : FS h0 hi p w ns L ns') (_ : Wok w (100 * done.length + 10)) {x3 x4 x5 x6 x7 x8 x9 : AV}
      (hQ : ∀ hj ns'' x3 x4 x5 x6 x7 x8 x9 x10, FS h0 hj p ((rest.take (24 - done.length)).foldl pieceS w) ns L ns'' → Wok ((rest.take (24 - done.length)).foldl pieceS w) 2500 → Q (.exit 0) (.mk [x0, .s xl, x2, x3, x4, x5, x6, x7, x8, x9, x10, .s (.ptr p 0), x12] hj)),
      W F2 lp1_funD.loop (.mk [x0, .s xl, x2, x3, x4, x5, x6, x7, x8, x9, vi done.length, .s (.ptr p 0), x12] hi) Q
  | [], done, hdn, h24, hi, w, ns', K, wk, x3, x4, x5, x6, x7, x8, x9, hQ => by
    rw [List.append_nil] at hdn
    subst hdn
    rw [W_loop]
    unfold lp1_funD
    have ll := lx.len
    simp (maxSteps := 1000000) (disch := first | omega | assumption | (simp only [List.length_cons, List.length_nil, Nat.reduceAdd]; done) | (simp only [inHid_nil']; done) | ((repeat (first | apply Ok_push | apply Ok_put)); assumption)) only [go_sem, ↓reduceIte, ll, Int.lt_irrefl]
    exact hQ hi ns' _ _ _ _ _ _ _ _ (by simpa using K) (by simpa using wk.le (by omega))
  | pc :: rest, done, hdn, h24, hi, w, ns', K, wk, x3, x4, x5, x6, x7, x8, x9, hQ => by
    have ll := lx.len
    have hlt1 : done.length < l.length := by rw [← hdn]; simp
    have hlt : (done.length : Int) < l.length := by omega
    by_cases h9 : (done.length : Int) < 24
    · have hget : l[done.length]? = some pc := by rw [← hdn]; simp
      have pn := pin pc (List.mem_of_getElem? hget)
      have hix := lx.at_ hget
      have hdn' : (done ++ [pc]) ++ rest = l := by rw [← hdn]; simp
      have hlen2 : (done ++ [pc]).length = done.length + 1 := by simp
      have hsucc : ((done.length : Int) + 1) = (((done ++ [pc]).length : Nat) : Int) := by rw [hlen2]; omega
      have wkp := wk.piece pc
      have fin : ∀ hj ns'' x3 x4 x5 x6 x7 x8 x9, FS h0 hj p (pieceS w pc) ns L ns'' → W F2 lp1_funD.loop (.mk [x0, .s xl, x2, x3, x4, x5, x6, x7, x8, x9, vi (done ++ [pc]).length, .s (.ptr p 0), x12] hj) Q := fun hj ns'' y3 y4 y5 y6 y7 y8 y9 KJ => by
        have e : 24 - done.length = (24 - (done ++ [pc]).length) + 1 := by rw [hlen2]; omega
        refine fun_loop hpos pin lx rest (done ++ [pc]) hdn' (by rw [hlen2]; omega) KJ (wkp.le (by rw [hlen2]; omega)) (fun hj' ns3 z3 z4 z5 z6 z7 z8 z9 z10 KZ wkz => hQ hj' ns3 z3 z4 z5 z6 z7 z8 z9 z10 ?_ ?_)
        · rw [e, List.take_succ_cons, List.foldl_cons]; exact KZ
        · rw [e, List.take_succ_cons, List.foldl_cons]; exact wkz
      rw [W_loop]
      have ok := K.ok
      have K1 := (K.push (a := .arr [.int .i64 0, .int .i64 0, .int .i64 0, .int .i64 0, .int .i64 0, .int .i64 0, .int .i64 0] 72)).put (a' := .arr (encP pc) 72) (fun r hr => by have := (K.kp r hr).2.2.1; omega) hpos
      obtain ⟨hA, eA⟩ : ∃ hA, (hi.push (AB.arr [.int .i64 0, .int .i64 0, .int .i64 0, .int .i64 0, .int .i64 0, .int .i64 0, .int .i64 0] 72)).put hi.next (some (.arr (encP pc) 72)) = hA := ⟨_, rfl⟩
      rw [eA] at K1
      have okA := K1.ok
      have hxA := (K1.kp _ (List.mem_cons_self ..)).1
      have hcur := wk.cur
      have hnb := wk.nb
      have hk6 := pk_lt (n := pc.kind) (m := 6) (by omega)
      obtain ⟨bx, ebx⟩ : ∃ bx, hi.next = bx := ⟨_, rfl⟩
      rw [ebx] at K1 hxA eA
      have pe := piece_eq w pc
      obtain ⟨⟨q1, q2⟩, ⟨q3, q4⟩, ⟨q5, q6⟩, ⟨q7, q8⟩, ⟨q9, q10⟩, ⟨q11, q12⟩, ⟨q13, q14⟩⟩ := id pn
      unfold encP at hxA eA
      unfold lp1_funD
      simp (maxSteps := 1000000) (disch := first | omega | assumption | (simp only [List.length_cons, List.length_nil, Nat.reduceAdd]; done) | (simp only [inHid_nil']; done) | ((repeat (first | apply Ok_push | apply Ok_put)); assumption)) only [go_sem, ↓reduceIte, ll, eq_true hlt, eq_true h9]
      unfold sq1_funD
      simp (maxSteps := 1000000) (disch := first | omega | assumption | (simp only [List.length_cons, List.length_nil, Nat.reduceAdd]; done) | (simp only [inHid_nil']; done) | ((repeat (first | apply Ok_push | apply Ok_put)); assumption)) only [go_sem, ↓reduceIte, hix, encP, ebx, eA]
      refine room_ok K1 hcur (by omega) ?_
      have drop : ∀ r ∈ L, r ∈ (bx, AB.arr (encP pc) 72) :: L := fun r hr => List.mem_cons_of_mem _ hr
      by_cases hr : room w = true
      · by_cases hz : ((pk pc.kind 6 : Nat) : Int) = 0
        · have hp : pieceS w pc = forkS w pc := by rw [pe, if_pos ⟨by omega, hr⟩]
          simp (maxSteps := 1000000) (disch := first | omega | assumption | (simp only [List.length_cons, List.length_nil, Nat.reduceAdd]; done) | (simp only [inHid_nil']; done) | ((repeat (first | apply Ok_push | apply Ok_put)); assumption)) only [go_sem, ↓reduceIte, pkl_2, pkl_3, pkl_4, pkl_6, pkl_9, pkl_256, pkl_1073741824, pkl_1099511627776, WC_picked base2, hxA, hr, eq_true hz]
          refine WC.imp (fork_ok K1.ok K1.mr wk (by omega) pc pn) ?_
          rintro _ h2 ⟨rfl, ns2, m2, v2⟩
          have K2 := K1.step m2 v2
          simp (maxSteps := 1000000) (disch := first | omega | assumption | (simp only [List.length_cons, List.length_nil, Nat.reduceAdd]; done) | (simp only [inHid_nil']; done) | ((repeat (first | apply Ok_push | apply Ok_put)); assumption)) only [go_sem, ↓reduceIte, w64_ok, hsucc]
          rw [← hp] at K2
          exact fin h2 ns2 _ _ _ _ _ _ _ (K2.sub drop)
        · by_cases ho : ((pk pc.kind 6 : Nat) : Int) = 1
          · have hp : pieceS w pc = loopS w pc := by rw [pe, if_neg (fun e => hz (by omega)), if_pos ⟨by omega, hr⟩]
            simp (maxSteps := 1000000) (disch := first | omega | assumption | (simp only [List.length_cons, List.length_nil, Nat.reduceAdd]; done) | (simp only [inHid_nil']; done) | ((repeat (first | apply Ok_push | apply Ok_put)); assumption)) only [go_sem, ↓reduceIte, pkl_2, pkl_3, pkl_4, pkl_6, pkl_9, pkl_256, pkl_1073741824, pkl_1099511627776, WC_picked base2, hxA, hr, eq_false hz, eq_true ho]
            refine WC.imp (mloop_ok K1.ok K1.mr wk (by omega) pc pn) ?_
            rintro _ h2 ⟨rfl, ns2, m2, v2⟩
            have K2 := K1.step m2 v2
            simp (maxSteps := 1000000) (disch := first | omega | assumption | (simp only [List.length_cons, List.length_nil, Nat.reduceAdd]; done) | (simp only [inHid_nil']; done) | ((repeat (first | apply Ok_push | apply Ok_put)); assumption)) only [go_sem, ↓reduceIte, w64_ok, hsucc]
            rw [← hp] at K2
            exact fin h2 ns2 _ _ _ _ _ _ _ (K2.sub drop)
          · have n1 : ¬ (pk pc.kind 6 = 0 ∧ room w = true) := fun e => hz (by omega)
            have n2 : ¬ (pk pc.kind 6 = 1 ∧ room w = true) := fun e => ho (by omega)
            simp (maxSteps := 1000000) (disch := first | omega | assumption | (simp only [List.length_cons, List.length_nil, Nat.reduceAdd]; done) | (simp only [inHid_nil']; done) | ((repeat (first | apply Ok_push | apply Ok_put)); assumption)) only [go_sem, ↓reduceIte, pkl_2, pkl_3, pkl_4, pkl_6, pkl_9, pkl_256, pkl_1073741824, pkl_1099511627776, WC_picked base2, hxA, hr, eq_false hz, eq_false ho]
            refine room2_ok K1 hcur ?_
            by_cases h2 : room2 w = true
            · have hp : pieceS w pc = layS w pc := by rw [pe, if_neg n1, if_neg n2, if_pos h2]
              rw [h2]
              simp (maxSteps := 1000000) (disch := first | omega | assumption | (simp only [List.length_cons, List.length_nil, Nat.reduceAdd]; done) | (simp only [inHid_nil']; done) | ((repeat (first | apply Ok_push | apply Ok_put)); assumption)) only [go_sem, ↓reduceIte, hxA]
              refine WC.imp (fs_lay K1 wk (by omega) (pc := pc) pn) ?_
              rintro _ h2 ⟨rfl, ns2, K2⟩
              simp (maxSteps := 1000000) (disch := first | omega | assumption | (simp only [List.length_cons, List.length_nil, Nat.reduceAdd]; done) | (simp only [inHid_nil']; done) | ((repeat (first | apply Ok_push | apply Ok_put)); assumption)) only [go_sem, ↓reduceIte, w64_ok, hsucc]
              rw [← hp] at K2
              exact fin h2 ns2 _ _ _ _ _ _ _ (K2.sub drop)
            · have hp : pieceS w pc = w := by rw [pe, if_neg n1, if_neg n2, if_neg h2]
              have h2' : room2 w = false := by simpa using h2
              rw [h2']
              simp (maxSteps := 1000000) (disch := first | omega | assumption | (simp only [List.length_cons, List.length_nil, Nat.reduceAdd]; done) | (simp only [inHid_nil']; done) | ((repeat (first | apply Ok_push | apply Ok_put)); assumption)) only [go_sem, ↓reduceIte, w64_ok, hsucc]
              have K1' := K1
              rw [← hp] at K1'
              exact fin hA ns' _ _ _ _ _ _ _ (K1'.sub drop)
      · have n1 : ¬ (pk pc.kind 6 = 0 ∧ room w = true) := fun e => hr e.2
        have n2 : ¬ (pk pc.kind 6 = 1 ∧ room w = true) := fun e => hr e.2
        have hr : room w = false := by simpa using hr
        by_cases hz : ((pk pc.kind 6 : Nat) : Int) = 0
        · have ho : ¬ ((pk pc.kind 6 : Nat) : Int) = 1 := by omega
          simp (maxSteps := 1000000) (disch := first | omega | assumption | (simp only [List.length_cons, List.length_nil, Nat.reduceAdd]; done) | (simp only [inHid_nil']; done) | ((repeat (first | apply Ok_push | apply Ok_put)); assumption)) only [go_sem, ↓reduceIte, pkl_2, pkl_3, pkl_4, pkl_6, pkl_9, pkl_256, pkl_1073741824, pkl_1099511627776, WC_picked base2, hxA, hr, eq_true hz, eq_false ho, Int.reduceEq]
          refine room2_ok K1 hcur ?_
          by_cases h2 : room2 w = true
          · have hp : pieceS w pc = layS w pc := by rw [pe, if_neg n1, if_neg n2, if_pos h2]
            rw [h2]
            simp (maxSteps := 1000000) (disch := first | omega | assumption | (simp only [List.length_cons, List.length_nil, Nat.reduceAdd]; done) | (simp only [inHid_nil']; done) | ((repeat (first | apply Ok_push | apply Ok_put)); assumption)) only [go_sem, ↓reduceIte, hxA]
            refine WC.imp (fs_lay K1 wk (by omega) (pc := pc) pn) ?_
            rintro _ h2 ⟨rfl, ns2, K2⟩
            simp (maxSteps := 1000000) (disch := first | omega | assumption | (simp only [List.length_cons, List.length_nil, Nat.reduceAdd]; done) | (simp only [inHid_nil']; done) | ((repeat (first | apply Ok_push | apply Ok_put)); assumption)) only [go_sem, ↓reduceIte, w64_ok, hsucc]
            rw [← hp] at K2
            exact fin h2 ns2 _ _ _ _ _ _ _ (K2.sub drop)
          · have hp : pieceS w pc = w := by rw [pe, if_neg n1, if_neg n2, if_neg h2]
            have h2' : room2 w = false := by simpa using h2
            rw [h2']
            simp (maxSteps := 1000000) (disch := first | omega | assumption | (simp only [List.length_cons, List.length_nil, Nat.reduceAdd]; done) | (simp only [inHid_nil']; done) | ((repeat (first | apply Ok_push | apply Ok_put)); assumption)) only [go_sem, ↓reduceIte, w64_ok, hsucc]
            have K1' := K1
            rw [← hp] at K1'
            exact fin hA ns' _ _ _ _ _ _ _ (K1'.sub drop)
        · by_cases ho : ((pk pc.kind 6 : Nat) : Int) = 1
          · skip
            simp (maxSteps := 1000000) (disch := first | omega | assumption | (simp only [List.length_cons, List.length_nil, Nat.reduceAdd]; done) | (simp only [inHid_nil']; done) | ((repeat (first | apply Ok_push | apply Ok_put)); assumption)) only [go_sem, ↓reduceIte, pkl_2, pkl_3, pkl_4, pkl_6, pkl_9, pkl_256, pkl_1073741824, pkl_1099511627776, WC_picked base2, hxA, hr, eq_false hz, eq_true ho]
            refine room2_ok K1 hcur ?_
            by_cases h2 : room2 w = true
            · have hp : pieceS w pc = layS w pc := by rw [pe, if_neg n1, if_neg n2, if_pos h2]
              rw [h2]
              simp (maxSteps := 1000000) (disch := first | omega | assumption | (simp only [List.length_cons, List.length_nil, Nat.reduceAdd]; done) | (simp only [inHid_nil']; done) | ((repeat (first | apply Ok_push | apply Ok_put)); assumption)) only [go_sem, ↓reduceIte, hxA]
              refine WC.imp (fs_lay K1 wk (by omega) (pc := pc) pn) ?_
              rintro _ h2 ⟨rfl, ns2, K2⟩
              simp (maxSteps := 1000000) (disch := first | omega | assumption | (simp only [List.length_cons, List.length_nil, Nat.reduceAdd]; done) | (simp only [inHid_nil']; done) | ((repeat (first | apply Ok_push | apply Ok_put)); assumption)) only [go_sem, ↓reduceIte, w64_ok, hsucc]
              rw [← hp] at K2
              exact fin h2 ns2 _ _ _ _ _ _ _ (K2.sub drop)
            · have hp : pieceS w pc = w := by rw [pe, if_neg n1, if_neg n2, if_neg h2]
              have h2' : room2 w = false := by simpa using h2
              rw [h2']
              simp (maxSteps := 1000000) (disch := first | omega | assumption | (simp only [List.length_cons, List.length_nil, Nat.reduceAdd]; done) | (simp only [inHid_nil']; done) | ((repeat (first | apply Ok_push | apply Ok_put)); assumption)) only [go_sem, ↓reduceIte, w64_ok, hsucc]
              have K1' := K1
              rw [← hp] at K1'
              exact fin hA ns' _ _ _ _ _ _ _ (K1'.sub drop)
          · skip
            simp (maxSteps := 1000000) (disch := first | omega | assumption | (simp only [List.length_cons, List.length_nil, Nat.reduceAdd]; done) | (simp only [inHid_nil']; done) | ((repeat (first | apply Ok_push | apply Ok_put)); assumption)) only [go_sem, ↓reduceIte, pkl_2, pkl_3, pkl_4, pkl_6, pkl_9, pkl_256, pkl_1073741824, pkl_1099511627776, WC_picked base2, hxA, hr, eq_false hz, eq_false ho]
            refine room2_ok K1 hcur ?_
            by_cases h2 : room2 w = true
            · have hp : pieceS w pc = layS w pc := by rw [pe, if_neg n1, if_neg n2, if_pos h2]
              rw [h2]
              simp (maxSteps := 1000000) (disch := first | omega | assumption | (simp only [List.length_cons, List.length_nil, Nat.reduceAdd]; done) | (simp only [inHid_nil']; done) | ((repeat (first | apply Ok_push | apply Ok_put)); assumption)) only [go_sem, ↓reduceIte, hxA]
              refine WC.imp (fs_lay K1 wk (by omega) (pc := pc) pn) ?_
              rintro _ h2 ⟨rfl, ns2, K2⟩
              simp (maxSteps := 1000000) (disch := first | omega | assumption | (simp only [List.length_cons, List.length_nil, Nat.reduceAdd]; done) | (simp only [inHid_nil']; done) | ((repeat (first | apply Ok_push | apply Ok_put)); assumption)) only [go_sem, ↓reduceIte, w64_ok, hsucc]
              rw [← hp] at K2
              exact fin h2 ns2 _ _ _ _ _ _ _ (K2.sub drop)
            · have hp : pieceS w pc = w := by rw [pe, if_neg n1, if_neg n2, if_neg h2]
              have h2' : room2 w = false := by simpa using h2
              rw [h2']
              simp (maxSteps := 1000000) (disch := first | omega | assumption | (simp only [List.length_cons, List.length_nil, Nat.reduceAdd]; done) | (simp only [inHid_nil']; done) | ((repeat (first | apply Ok_push | apply Ok_put)); assumption)) only [go_sem, ↓reduceIte, w64_ok, hsucc]
              have K1' := K1
              rw [← hp] at K1'
              exact fin hA ns' _ _ _ _ _ _ _ (K1'.sub drop)
    · have h24' : 24 - done.length = 0 := by omega
      rw [W_loop]
      unfold lp1_funD
      simp (maxSteps := 1000000) (disch := first | omega | assumption | (simp only [List.length_cons, List.length_nil, Nat.reduceAdd]; done) | (simp only [inHid_nil']; done) | ((repeat (first | apply Ok_push | apply Ok_put)); assumption)) only [go_sem, ↓reduceIte, ll, eq_true hlt, eq_false h9]
      exact hQ hi ns' _ _ _ _ _ _ _ _ (by rw [h24']; exact K) (by rw [h24']; exact wk.le (by omega))
end Go.Proofs.Ytaljcpoopmedmaa.Ev

/- Functions built of pieces: the whole. -/
namespace Go.Proofs.Ytaljcpoopmedmaa.Ev
open Go Go.RowKit Go.Proofs.Ytaljcpoopmedmaa.Ms
attribute [local go_sem] LD_head_callk zkH_some contH_hide W_skip W_ret W_exit W_seq W_block LW_cond zcO_bool W_region W_draw WO_nil LO_pure zpO_some LO_call zkO_some contO_eq LO_guard zgO_bool zgO_undef zmO_some WD_nil LD_pure zpD_some zmD_some LD_call zkD_some contD_eq LD_guard zgD_bool zgD_undef LD_head_pure zhpD_some LD_head_load zhlD_some LD_head_bslice zhaD_some zhbD_some thenQ_normal thenQ_exit thenQ_ret blkQ_normal blkQ_exit blkQ_ret loopQ_normal loopQ_exit loopQ_ret LO_new LO_box LO_bslice LO_mkslice LO_load LO_store LO_app LO_copy LO_clear LO_mkmap LO_look LO_mupd LO_slicea LO_boxc LD_new LD_box LD_bslice LD_mkslice LD_load LD_store LD_app LD_copy LD_clear LD_mkmap LD_look LD_mupd LD_slicea LD_boxc ev_l ev_g ev_c evs_nil evs_cons lget_zero lget_succ lset_zero lset_succ putD_none putD_some undefs_zero undefs_succ ob_s ob_n oif_ite svc_s svc_undef vInt_int vBool_bool sInt_int sBool_bool cel_s cel_agg mkAV_f mkAV_t celA_s celA_agg ltake_zero ltake_succ ldrop_zero ldrop_succ ldrop_nil llen_nil llen_cons lover_nil lover_cons loverAt_zero loverAt_succ nbeq_refl nbeq_eq nble_eq Lp_mm mmV_min mmV_max pop_mv Lp_pick pickO_bool pop_build fill_nil fill_cons Lp_bin binV_some pop_not pop_neg Lp_fld fldV_ptr fldV_cp pop_fval Lp_ext extO_tup mk1_some Lp_nchk nchkV_ptr nchkV_cp pop_conv pop_mkfun ptrs_nil ptrs_cons capAVs_nil capAVs_cons sPtrC_ptr sPtrC_cp sPtr_ptr Lp_len lenO_some lenV_nil lenV_lst lenV_slice numS_64 bin_add bin_sub bin_mul bin_quo_pos bin_rem_pos bin_shr_pos bin_eq bin_ne bin_lt bin_le bin_gt bin_ge Lp_ixs ixsO_some Lp_ixa ixaO_some Lr_one re1_f re1_t Lr_tmp reT_s reT_agg Lr_cell reP_some reC_ptr outP_some Lret_normal Lret_ret resAll_nil resAll_cons result_nil Lr_two re2_some ok_eq rdB_arr wrB_arr La_load loadO_ptr loadO_cp ldR_t ldR_f La_store stR_some La_mkslice mksO_some La_app appO_some bsO_some boxO_s boxO_agg fpV_ptr fpV_cp sel_nil sel_cons inHid_nil' inHid_cons' LV_ptr LV_cp mkL_t mkL_f Int.cast_ofNat_Int Int.natCast_zero Int.natCast_one decide_eq_true_eq decide_eq_false_iff_not Bool.false_eq_true and_true true_and List.cons_append List.nil_append reduceCtorEq decide_true decide_false Bool.not_true Bool.not_false Nat.add_zero Nat.zero_add Option.some.injEq Bool.true_eq_false not_true_eq_false not_false_eq_true Hp.next_push Hp.next_put Nat.add_assoc self_add add_self ixsV_slice1 ixaV_ptr ixaV_cp ixaV_ptr0 ixaV_ptr1 ixaV_cp0 ixaV_cp1 hid_ok get_hide La_bslice La_box aop_new storeO_s storeO_agg get_push get_put mksV_two ixsV_slice0 ixsV_slice Int.reduceToNat Nat.reduceAdd Nat.reduceMul Nat.reduceEqDiff Int.reduceEq Int.reduceLT Int.reduceLE Int.reduceNeg Int.reduceAdd Int.reduceSub Int.reduceMul Int.reduceNe
set_option linter.unusedVariables false
set_option linter.unusedSimpArgs false
set_option linter.unusedSectionVars false
set_option maxRecDepth 100000
set_option maxHeartbeats 2000000
section
variable {k : Bool} {h : Hp} {d : Nat}
theorem EI.frz {row : List SV} {n : Nat} {ms : List Nat} (e : EI row n ms) : frzL (frzS k h (d + 1)) row = some (encI n) := by
  obtain ⟨rfl, rfl⟩ := e; rfl
theorem EO.frz {row : List SV} {n : Ms.Opd} {ms : List Nat} (e : EO row n ms) : frzL (frzS k h (d + 1)) row = some (encO n) := by
  obtain ⟨rfl, rfl⟩ := e; rfl
theorem ER.frz {row : List SV} {n : Nat × Nat} {ms : List Nat} (e : ER row n ms) : frzL (frzS k h (d + 1)) row = some (encR n) := by
  obtain ⟨rfl, rfl⟩ := e; rfl
theorem EX.frz {row : List SV} {x : Ms.Ins} {ms : List Nat} (e : EX tt h row x ms) : frzL (frzS k h (d + 2)) row = some (encX x) := by
  obtain ⟨a, b, n1, n2, rfl, h1, h2, rfl⟩ := e
  exact frzL_cons rfl (frzL_cons (h1.frz (fun _ _ _ e => EO.frz e) (fun _ => rfl)) (frzL_cons (h2.frz (fun _ _ _ e => ER.frz e) (fun _ => rfl)) rfl))
theorem EE.frz {row : List SV} {x : Ms.Edg} {ms : List Nat} (e : EE tt h row x ms) : frzL (frzS k h (d + 2)) row = some (encE x) := by
  obtain ⟨a, rfl, h1⟩ := e
  exact frzL_cons rfl (frzL_cons (h1.frz (fun _ _ _ e => EI.frz e) (fun _ => rfl)) rfl)
theorem EB.frz {row : List SV} {x : Ms.Blk} {ms : List Nat} (e : EB tt h row x ms) : frzL (frzS k h (d + 3)) row = some (encB x) := by
  obtain ⟨p, i, e, n1, n2, n3, rfl, h1, h2, h3, rfl⟩ := e
  exact frzL_cons (h1.frz (fun _ _ _ e => EI.frz e) (fun _ => rfl)) (frzL_cons (h2.frz (fun _ _ _ e => EX.frz e) (fun _ => rfl)) (frzL_cons (h3.frz (fun _ _ _ e => EE.frz e) (fun _ => rfl)) rfl))
theorem func_frz {w : Ms} {a b : SV} {n1 n2 : List Nat} (h1 : Sl h tt.int 1 false EI a w.values n1) (h2 : Sl h tt.blk 3 false (EB tt h) b w.blocks n2) : frzA k h 4 (.agg [a, b]) = some (.agg (encF ⟨w.values, w.blocks⟩)) :=
  ob_some.2 ⟨_, frzL_cons (h1.frz (fun _ _ _ e => EI.frz e) (fun _ => rfl)) (frzL_cons (h2.frz (fun _ _ _ e => EB.frz e) (fun _ => rfl)) rfl), rfl⟩
end
theorem func_run {h : Hp} (ok : Ok h) {m : Nat × Nat} {l : List Pc} (m1 : 2 ≤ m.1 ∧ m.1 ≤ 10) (m2 : 2 ≤ m.2 ∧ m.2 ≤ 10) (pin : ∀ q ∈ l, Pin q) {xl : SV} (lx : LstE encP 7 xl l) : WC F2 16 [.agg [si m.1, si m.2], .s xl] h (fun v h' => ∃ d, frzA true h' d v = some (.agg (encF (funcS m l)))) := by
  refine WC_run (no2 rfl rfl) T_funD rfl ?_
  unfold bd_funD
  have hpos := ok.pos
  obtain ⟨hA, eA⟩ : ∃ hA, (h.push (AB.arr [si m.1, si m.2] 30)).push (AB.arr [.nilSlice, .nilSlice] 26) = hA := ⟨_, rfl⟩
  have okA : Ok hA := by rw [← eA]; exact Ok_push (Ok_push ok)
  have nA : hA.next = h.next + 2 := by rw [← eA]; rfl
  have xA : hA.get h.next = some (AB.arr [si m.1, si m.2] 30) := by rw [← eA, get_push (Ok_push ok), if_neg (by rw [Hp.next_push]; omega), get_push ok, if_pos rfl]
  have yA : hA.get (h.next + 1) = some (AB.arr [.nilSlice, .nilSlice] 26) := by rw [← eA, get_push (Ok_push ok), if_pos (by rw [Hp.next_push])]
  obtain ⟨hB, eB⟩ : ∃ hB, hA.push (AB.arr [si m.1, si m.2, .nilSlice, .nilSlice, .int .i64 0, .nilSlice, .int .i64 0] 69) = hB := ⟨_, rfl⟩
  have okB : Ok hB := by rw [← eB]; exact Ok_push okA
  have nB : hB.next = h.next + 3 := by rw [← eB, Hp.next_push, nA]
  have pB : hB.get (h.next + 2) = some (AB.arr [si m.1, si m.2, .nilSlice, .nilSlice, .int .i64 0, .nilSlice, .int .i64 0] 69) := by rw [← eB, get_push okA, if_pos nA.symm]
  have yB : hB.get (h.next + 1) = some (AB.arr [.nilSlice, .nilSlice] 26) := by rw [← eB, get_push okA, if_neg (by omega)]; exact yA
  have mrB : MR tt hB (h.next + 2) ⟨m, [], [], 0, [], 0⟩ [h.next + 2] := ⟨⟨_, _, _, [], [], [], pB, Sl.nil, Sl.nil, Sl.nil, rfl⟩, by simp, fun n hn => by simp at hn; omega⟩
  simp (maxSteps := 1000000) (disch := first | omega | assumption | (simp only [List.length_cons, List.length_nil, Nat.reduceAdd]; done) | (simp only [inHid_nil']; done) | ((repeat (first | apply Ok_push | apply Ok_put)); assumption)) only [go_sem, ↓reduceIte, eA, xA, nA, eB]
  refine WC.imp (block_ok okB mrB (N := 10) (by simp) (by simp) (by omega) (cs := []) (nsx := []) Sl.nil (by simp) (by simp) (by simp)) ?_
  rintro _ h1 ⟨rfl, ns1, mr1, mv1⟩
  have K1 : FS hB h1 (h.next + 2) (startS m) [h.next + 2] [] ns1 := ⟨mv1.ok, mr1, mv1, by simp⟩
  have wk1 : Wok (startS m) 10 := ⟨m1, m2, by simp [startS], by simp [startS], by simp [startS], by simp [startS], by simp [startS], by simp [startS], by simp [startS], by simp [startS]⟩
  simp (maxSteps := 1000000) (disch := first | omega | assumption | (simp only [List.length_cons, List.length_nil, Nat.reduceAdd]; done) | (simp only [inHid_nil']; done) | ((repeat (first | apply Ok_push | apply Ok_put)); assumption)) only [go_sem, ↓reduceIte]
  refine fun_loop (by omega) pin lx l [] rfl (by simp) K1 (wk1.le (by simp)) ?_
  intro h2 ns2 x3 x4 x5 x6 x7 x8 x9 x10 K2 wk2
  have e24 : 24 - ([] : List Pc).length = 24 := rfl
  rw [e24] at K2 wk2
  have ok2 := K2.ok
  simp (maxSteps := 1000000) (disch := first | omega | assumption | (simp only [List.length_cons, List.length_nil, Nat.reduceAdd]; done) | (simp only [inHid_nil']; done) | ((repeat (first | apply Ok_push | apply Ok_put)); assumption)) only [go_sem, ↓reduceIte]
  refine WC.imp (fs_lay K2 wk2 (by omega) (pc := ⟨0, 0, 1, 0, 0, 0, 3⟩) ⟨by decide, by decide, by decide, by decide, by decide, by decide, by decide⟩) ?_
  rintro _ h3 ⟨rfl, ns3, K3⟩
  have y3 : h3.get (h.next + 1) = _ := (K3.mv.keep (h.next + 1) (by omega) (by simp)).trans yB
  have ok3 := K3.ok
  obtain ⟨⟨a, b, c, n1, n2, n3, hg, hv, hb, hk, e⟩, hd, hlt⟩ := K3.mr
  simp (maxSteps := 1000000) (disch := first | omega | assumption | (simp only [List.length_cons, List.length_nil, Nat.reduceAdd]; done) | (simp only [inHid_nil']; done) | ((repeat (first | apply Ok_push | apply Ok_put)); assumption)) only [go_sem, ↓reduceIte, hg, y3]
  refine ⟨4, ?_⟩
  have kp : ∀ n ∈ n1 ++ n2, (h3.put (h.next + 1) (some (AB.arr [a, b] 26))).get n = h3.get n := fun n hn => by
    rw [get_put ok3 (by omega), if_neg (fun e2 => ?_)]
    have hm : n ∈ ns3 := by rw [e]; rcases List.mem_append.1 hn with h | h <;> simp [h]
    rcases K3.mv.new n hm with h4 | h4
    · simp at h4; omega
    · omega
  exact func_frz (w := layS ((l.take 24).foldl pieceS (startS m)) ⟨0, 0, 1, 0, 0, 0, 3⟩) (hv.keep (fun n hn => kp n (by simp [hn]))) (hb.imp (fun n hn => kp n (by simp [hn])) (fun row a ms hm k => k.keep (fun n hn => kp n (by simp [hm n hn]))))
end Go.Proofs.Ytaljcpoopmedmaa.Ev

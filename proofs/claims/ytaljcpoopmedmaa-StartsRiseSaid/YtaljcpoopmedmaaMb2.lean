/- Code of functions as the interpreter has it prepared, loads in no order. -/
import Derived.Test.YtaljcpoopmedmaaWb
import Derived.Test.YtaljcpoopmedmaaEnvX
import Derived.Test.YtaljcpoopmedmaaMa12
namespace Go.Proofs.Ytaljcpoopmedmaa.Ev
open Go Go.RowKit
set_option linter.unusedVariables false
set_option maxRecDepth 100000
def ic1_block : IC := (.region [(.mk (.some 2) (.p (.mv (.c (.s (.int .i64 0))))) .none)])
def ic2_block : IC := (.region [(.mk .none (.p (.build [.nilSlice, .nilSlice, .nilSlice] [])) .none), (.mk (.some 4) (.a (.new 36 [.nilSlice, .nilSlice, .nilSlice])) .none), (.mk .none (.a (.store 3 (.l 0) (.l 1))) .none)])
def ic3_block : IC := (.region [(.mk (.some 5) (.p (.mv (.g 1))) .none), (.mk (.some 7) (.p (.len (.l 0))) .none), (.mk (.some 8) (.p (.mv (.c (.s (.int .i64 0))))) .none)])
def ic4_block : IC := (.region [(.mk (.some 6) (.p (.bin .lt (.g 8) (.g 7))) .none)])
def ic5_block : IC := (.cond (.g 6) .skip (.exit 0))
def ic6_block : IC := (.region [(.mk .none (.p (.ixs 1 (.g 5) (.g 8))) .none), (.mk .none (.a (.load 1 false (.l 0))) .none), (.mk (.some 3) (.p (.mv (.l 0))) .none)])
def fl1_block : List (IOper × List Nat) := [((.mk .none (.p (.fld 0 (.g 4))) .none), []), ((.mk .none (.a (.load 1 false (.l 0))) .none), []), ((.mk .none (.p (.mv (.g 0))) .none), []), ((.mk .none (.p (.mv (.g 3))) .none), []), ((.mk .none (.a (.call 47 [(.l 1), (.l 0)])) .none), [2]), ((.mk .none (.a (.bslice 3 1 [(.int .i64 0)] 1 [(0, (1, (.l 0)))])) .none), [3]), ((.mk .none (.a (.app 3 1 8 (.l 4) (.l 0))) .none), []), ((.mk .none (.p (.fld 0 (.g 4))) .none), []), ((.mk .none (.a (.store 1 (.l 0) (.l 1))) .none), [])]
def ic7_block : IC := (.region [(.mk .none (.p (.bin .add (.g 8) (.c (.s (.int .i64 1))))) .none), (.mk (.some 8) (.p (.mv (.l 0))) .none)])
def lb1_block : IB := (.seq (.c ic4_block) (.seq (.c ic5_block) (.seq (.block 1 (.seq (.c ic6_block) (.flo fl1_block))) (.c ic7_block))))
def fl2_block : List (IOper × List Nat) := [((.mk .none (.p (.mv (.g 0))) .none), []), ((.mk .none (.p (.mv (.g 0))) .none), []), ((.mk .none (.p (.nchk (.l 0))) .none), []), ((.mk .none (.p (.fld 2 (.l 0))) .none), []), ((.mk .none (.p (.fld 1 (.l 0))) .none), []), ((.mk .none (.a (.load 1 false (.l 0))) .none), []), ((.mk .none (.a (.load 3 true (.g 4))) .none), [0]), ((.mk .none (.a (.bslice 36 3 [.nilSlice, .nilSlice, .nilSlice] 1 [(0, (3, (.l 0)))])) .none), [1]), ((.mk .none (.a (.app 36 3 72 (.l 2) (.l 0))) .none), []), ((.mk .none (.p (.nchk (.l 8))) .none), []), ((.mk .none (.p (.fld 2 (.l 0))) .none), []), ((.mk .none (.p (.fld 1 (.l 0))) .none), []), ((.mk .none (.a (.store 1 (.l 0) (.l 3))) .none), [])]
def ic8_block : IC := (.region [(.mk .none (.p (.mv (.g 0))) .none), (.mk .none (.p (.nchk (.l 0))) .none), (.mk .none (.p (.fld 2 (.l 0))) .none), (.mk .none (.p (.fld 1 (.l 0))) .none), (.mk .none (.a (.load 1 false (.l 0))) .none), (.mk .none (.p (.len (.l 0))) .none), (.mk .none (.p (.bin .sub (.l 0) (.c (.s (.int .i64 1))))) .none), (.mk (.some 2) (.p (.mv (.l 0))) .none)])
def ic9_block : IC := .ret
def ib_block : IB := (.seq (.c ic1_block) (.seq (.c ic2_block) (.seq (.seq (.c ic3_block) (.block 0 (.loop lb1_block))) (.seq (.flo fl2_block) (.seq (.c ic8_block) (.c ic9_block))))))
theorem TB_block : TB 29 true = some (.mk ib_block 2 7 [(.tmp 2)]) := by kernel_rfl
end Go.Proofs.Ytaljcpoopmedmaa.Ev

/- The builders of functions: a block more: set up. -/
namespace Go.Proofs.Ytaljcpoopmedmaa.Ev
open Go Go.RowKit Go.Proofs.Ytaljcpoopmedmaa.Ms
set_option linter.unusedVariables false
set_option linter.unusedSimpArgs false
set_option linter.unusedSectionVars false
set_option maxRecDepth 100000
set_option maxHeartbeats 2000000
def noB (_ : FuncId) : Bool := false
theorem noB_ok : ∀ f, noB f = true → Iter Try.prog f := fun f hf => by cases hf
theorem fbOk {q : FB1} {fl : Bool} (hq : TB q.f fl = some (.mk q.ib q.nargs q.nslots q.res)) : FbOk Try.prog tys q := by
  obtain ⟨fn, hfn, hcomp⟩ := ob_some.1 (show ob (Try.prog.funcs[q.f]?) (compB tys fl) = _ from hq)
  unfold compB at hcomp
  split at hcomp
  · cases hcomp
  · rename_i b hb
    dsimp only at hcomp
    split at hcomp
    · rename_i c r hc hr
      cases hna : Nat.ble (fn.params.size + fn.nfree) fn.ntmps with
      | false => rw [hna] at hcomp; cases hcomp
      | true =>
        rw [hna] at hcomp
        have h1 : IFB.mk c (fn.params.size + fn.nfree) (llen (rdRes (fn.params.size + fn.nfree) (rdCodeB (fn.params.size + fn.nfree) [] b) fn.results.toList)) r = .mk q.ib q.nargs q.nslots q.res := Option.some.inj hcomp
        obtain ⟨e1, e2, e3, e4⟩ := IFB.mk.inj h1
        rw [e1, e2] at hc
        rw [e2, e4] at hr
        refine ⟨⟨fn, hfn, by rw [hb]; rfl, ?_⟩, fn, b, _, fl, hfn, hb, by rw [← e2]; exact Nat.le_of_ble_eq_true hna, hc, hr⟩
        have := List.all_eq_true.1 names fn (by
          rw [← Array.getElem?_toList] at hfn
          exact List.mem_of_getElem? hfn)
        simpa using this
    · cases hcomp
def qBlock : FB1 := ⟨29, ib_block, 2, 7, [(.tmp 2)]⟩
noncomputable def F2 : Fns := BX noB qBlock F1
theorem env1 {A : Nat → Int} : Env Try.prog A tys F1 := PX_env env0
theorem env2 {A : Nat → Int} : Env Try.prog A tys F2 := BX_env env1 noB_ok (fbOk TB_block)
theorem base1 : Base F1 where
  T := fun f => rfl
  pk := fun vs h => rfl
  no := fun f hf vs h => by
    have : S1 f = false := by rcases hf with rfl | rfl | rfl | rfl | rfl | rfl <;> rfl
    exact (PX_low this).trans F0_X
theorem base2 : Base F2 where
  T := fun f => rfl
  pk := fun vs h => BX_low rfl
  no := fun f hf vs h => by
    have : Nat.beq f qBlock.f = false := by rcases hf with rfl | rfl | rfl | rfl | rfl | rfl <;> rfl
    exact (BX_low this).trans (base1.no f hf vs h)
end Go.Proofs.Ytaljcpoopmedmaa.Ev

/- The builders of functions: a block more: its loop. -/
namespace Go.Proofs.Ytaljcpoopmedmaa.Ev
open Go Go.RowKit Go.Proofs.Ytaljcpoopmedmaa.Ms
attribute [local go_sem] LD_head_callk zkH_some contH_hide W_skip W_ret W_exit W_seq W_block LW_cond zcO_bool W_region W_draw WO_nil LO_pure zpO_some LO_call zkO_some contO_eq LO_guard zgO_bool zgO_undef zmO_some WD_nil LD_pure zpD_some zmD_some LD_call zkD_some contD_eq LD_guard zgD_bool zgD_undef LD_head_pure zhpD_some LD_head_load zhlD_some LD_head_bslice zhaD_some zhbD_some thenQ_normal thenQ_exit thenQ_ret blkQ_normal blkQ_exit blkQ_ret loopQ_normal loopQ_exit loopQ_ret LO_new LO_box LO_bslice LO_mkslice LO_load LO_store LO_app LO_copy LO_clear LO_mkmap LO_look LO_mupd LO_slicea LO_boxc LD_new LD_box LD_bslice LD_mkslice LD_load LD_store LD_app LD_copy LD_clear LD_mkmap LD_look LD_mupd LD_slicea LD_boxc ev_l ev_g ev_c evs_nil evs_cons lget_zero lget_succ lset_zero lset_succ putD_none putD_some undefs_zero undefs_succ ob_s ob_n oif_ite svc_s svc_undef vInt_int vBool_bool sInt_int sBool_bool cel_s cel_agg mkAV_f mkAV_t celA_s celA_agg ltake_zero ltake_succ ldrop_zero ldrop_succ ldrop_nil llen_nil llen_cons lover_nil lover_cons loverAt_zero loverAt_succ nbeq_refl nbeq_eq nble_eq Lp_mm mmV_min mmV_max pop_mv Lp_pick pickO_bool pop_build fill_nil fill_cons Lp_bin binV_some pop_not pop_neg Lp_fld fldV_ptr fldV_cp pop_fval Lp_ext extO_tup mk1_some Lp_nchk nchkV_ptr nchkV_cp pop_conv pop_mkfun ptrs_nil ptrs_cons capAVs_nil capAVs_cons sPtrC_ptr sPtrC_cp sPtr_ptr Lp_len lenO_some lenV_nil lenV_lst lenV_slice numS_64 bin_add bin_sub bin_mul bin_quo_pos bin_rem_pos bin_shr_pos bin_eq bin_ne bin_lt bin_le bin_gt bin_ge Lp_ixs ixsO_some Lp_ixa ixaO_some Lr_one re1_f re1_t Lr_tmp reT_s reT_agg Lr_cell reP_some reC_ptr outP_some Lret_normal Lret_ret resAll_nil resAll_cons result_nil Lr_two re2_some ok_eq rdB_arr wrB_arr La_load loadO_ptr loadO_cp ldR_t ldR_f La_store stR_some La_mkslice mksO_some La_app appO_some bsO_some boxO_s boxO_agg fpV_ptr fpV_cp sel_nil sel_cons inHid_nil' inHid_cons' LV_ptr LV_cp mkL_t mkL_f Int.cast_ofNat_Int Int.natCast_zero Int.natCast_one decide_eq_true_eq decide_eq_false_iff_not Bool.false_eq_true and_true true_and List.cons_append List.nil_append reduceCtorEq decide_true decide_false Bool.not_true Bool.not_false Nat.add_zero Nat.zero_add Option.some.injEq Bool.true_eq_false not_true_eq_false not_false_eq_true Hp.next_push Hp.next_put Nat.add_assoc self_add add_self ixsV_slice1 ixaV_ptr ixaV_cp ixaV_ptr0 ixaV_ptr1 ixaV_cp0 ixaV_cp1 hid_ok get_hide La_bslice La_box aop_new storeO_s storeO_agg get_push get_put mksV_two ixsV_slice0 ixsV_slice Int.reduceToNat Nat.reduceAdd Nat.reduceMul Nat.reduceEqDiff Int.reduceEq Int.reduceLT Int.reduceLE Int.reduceNeg Int.reduceAdd Int.reduceSub Int.reduceMul Int.reduceNe
set_option linter.unusedVariables false
set_option linter.unusedSimpArgs false
set_option linter.unusedSectionVars false
set_option maxRecDepth 100000
set_option maxHeartbeats 2000000
theorem flE_ld {st fr : List AV} {o : AO} {h : Hp} {v : AV} : (flE st fr o h v).ld = true := rfl
theorem flE_ev {st fr : List AV} {o : AO} {h h' h2 : Hp} {v : AV} (k : aop0 st fr h' o = some (v, h2)) : (flE st fr o h v).ev h' = some (flE st fr o h v).v := by
  show ob (aop0 st fr h' o) (fun q => some q.1) = some v
  rw [k]; rfl
theorem eqN_slice {b o n m z : Nat} {e : Bool} : eqN (.s (.slice b o n m e z)) (.s (.slice b o n m e z)) = true := by
  show oif (Nat.beq b b) (oif (Nat.beq o o) (oif (Nat.beq n n) (oif (Nat.beq m m) (oif (beq2 e e) (Nat.beq z z) false) false) false) false) false = true
  simp only [Nat.beq_refl]
  cases e <;> rfl
theorem Sl.eqN {α : Type} {h : Hp} {ty sz : Nat} {ex : Bool} {E : List SV → α → List Nat → Prop} {x : SV} {l : List α} {ns : List Nat} (k : Sl h ty sz ex E x l ns) : eqN (.s x) (.s x) = true := by
  rcases k with ⟨_, rfl, _⟩ | ⟨_, b, rows, nss, rfl, _⟩
  · rfl
  · exact eqN_slice
theorem range'_snoc {a n : Nat} : List.range' a n ++ [a + n] = List.range' a (n + 1) := by rw [List.range'_concat, Nat.one_mul]
theorem block_loop {h : Hp} {p bx : Nat} {w : Ms} {ns : List Nat} {cs : List Nat} {xo : SV} {nsx : List Nat} (hns : ∀ n ∈ ns, n < h.next) (hbx1 : h.next ≤ bx) (hpos : 1 ≤ h.next) (hcs : ∀ c ∈ cs, c < 2) (hx : ∀ n ∈ nsx, n < h.next ∧ n ∉ ns) (hlen : w.values.length + cs.length ≤ 90000) {x2 : AV} {Q : Ex → St → Prop} :
    ∀ (rest done : List Nat) (_ : done ++ rest = cs) {hi : Hp} {ns' nsp : List Nat} {pp : SV} (_ : Ok hi) (_ : MR tt hi p { w with values := w.values ++ done } ns') (_ : Mv h hi ns ns') (_ : bx < hi.next ∧ bx ∉ ns') (_ : hi.get bx = some (.arr [pp, .nilSlice, .nilSlice] 36))
      (_ : Sl hi 3 1 false EI pp (List.range' w.values.length done.length) nsp) (_ : ∀ n ∈ nsp, h.next ≤ n ∧ n < hi.next ∧ n ∉ ns' ∧ n ≠ bx) (_ : nsp.Nodup) (_ : Sl hi 3 1 true EI xo cs nsx) {x3 x6 : AV}
      (hQ : ∀ hj ns'' nsp' pp' x3 x6, Ok hj → MR tt hj p { w with values := w.values ++ cs } ns'' → Mv h hj ns ns'' → bx < hj.next ∧ bx ∉ ns'' → hj.get bx = some (.arr [pp', .nilSlice, .nilSlice] 36) → Sl hj 3 1 false EI pp' (List.range' w.values.length cs.length) nsp' → (∀ n ∈ nsp', h.next ≤ n ∧ n < hj.next ∧ n ∉ ns'' ∧ n ≠ bx) → nsp'.Nodup →
        Q (.exit 0) (.mk [.s (.ptr p 0), .s xo, x2, x3, .s (.ptr bx 0), .s xo, x6, vi cs.length, vi cs.length] hj)),
      WB F1 noB (.loop lb1_block) (.mk [.s (.ptr p 0), .s xo, x2, x3, .s (.ptr bx 0), .s xo, x6, vi cs.length, vi done.length] hi) Q
  | [], done, hdn, hi, ns', nsp, pp, ok, mr, mv, hb, hg, sp, lo, nd, sx, x3, x6, hQ => by
    rw [List.append_nil] at hdn
    subst hdn
    refine WB.loop ?_
    unfold lb1_block
    refine WB.seq (WB.c ?_)
    unfold ic4_block
    simp (maxSteps := 1000000) (disch := first | omega | assumption | (simp only [List.length_cons, List.length_nil, Nat.reduceAdd]; done) | (simp only [inHid_nil']; done) | ((repeat (first | apply Ok_push | apply Ok_put)); assumption)) only [go_sem, ↓reduceIte, Int.lt_irrefl]
    refine WB.seq (WB.c ?_)
    unfold ic5_block
    simp (maxSteps := 1000000) (disch := first | omega | assumption | (simp only [List.length_cons, List.length_nil, Nat.reduceAdd]; done) | (simp only [inHid_nil']; done) | ((repeat (first | apply Ok_push | apply Ok_put)); assumption)) only [go_sem, ↓reduceIte]
    exact hQ hi _ _ _ _ _ ok mr mv hb hg sp lo nd
  | c :: rest, done, hdn, hi, ns', nsp, pp, ok, mr, mv, hb, hg, sp, lo, nd, sx, x3, x6, hQ => by
    have hlen1 : done.length < cs.length := by rw [← hdn]; simp
    have hlt1 : (done.length : Int) < cs.length := by omega
    have hget : cs[done.length]? = some c := by rw [← hdn]; simp
    have hc2 := hcs c (List.mem_of_getElem? hget)
    obtain ⟨ob1, orow, oms, oe1, oe2, oe3, ⟨rfl, rfl⟩, oe5, oe6⟩ := sx.at hget
    have hob := hx ob1 oe6
    refine WB.loop (WB.seq (WB.c ?_))
    unfold ic4_block
    simp (maxSteps := 1000000) (disch := first | omega | assumption | (simp only [List.length_cons, List.length_nil, Nat.reduceAdd]; done) | (simp only [inHid_nil']; done) | ((repeat (first | apply Ok_push | apply Ok_put)); assumption)) only [go_sem, ↓reduceIte, eq_true hlt1]
    refine WB.seq (WB.c ?_)
    unfold ic5_block
    simp (maxSteps := 1000000) (disch := first | omega | assumption | (simp only [List.length_cons, List.length_nil, Nat.reduceAdd]; done) | (simp only [inHid_nil']; done) | ((repeat (first | apply Ok_push | apply Ok_put)); assumption)) only [go_sem, ↓reduceIte]
    refine WB.seq (WB.block (WB.seq (WB.c ?_)))
    unfold ic6_block
    simp (maxSteps := 1000000) (disch := first | omega | assumption | (simp only [List.length_cons, List.length_nil, Nat.reduceAdd]; done) | (simp only [inHid_nil']; done) | ((repeat (first | apply Ok_push | apply Ok_put)); assumption)) only [go_sem, ↓reduceIte, oe1, oe2]
    refine WB.flo ?_
    unfold fl1_block
    refine WL.pure (v := .s (.ptr bx 0)) (by simp only [go_sem, ↓reduceIte]) ?_
    refine WL.ld (v := .s pp) (h' := hi) rfl (by simp only [go_sem, ↓reduceIte, hg]) (by simp) sp.eqN ?_
    refine WL.pure (v := .s (.ptr p 0)) (by simp only [go_sem, ↓reduceIte]) ?_
    refine WL.pure (v := vi c) (by simp only [go_sem, ↓reduceIte]) ?_
    refine WL.call (vs := [.s (.ptr p 0), vi c]) (by simp only [go_sem, ↓reduceIte]) ?_
    refine WC.imp (value_ok base1 ok mr c hc2 (by simp; omega)) ?_
    rintro _ h2 ⟨rfl, ns2, mr2, mv2⟩
    have ok2 := mv2.ok
    have g2 : ∀ n, n < hi.next → n ∉ ns' → h2.get n = hi.get n := mv2.keep
    have b2 : h2.get bx = some (.arr [pp, .nilSlice, .nilSlice] 36) := (g2 bx hb.1 hb.2).trans hg
    refine ⟨fun j hj => by simp at hj; subst hj; exact ⟨_, rfl, flE_ld, flE_ev (h2 := h2) (by simp only [go_sem, ↓reduceIte, b2]), sp.eqN⟩, ?_⟩
    have hk : (w.values ++ done).length = w.values.length + done.length := by simp
    have hkk : ({ w with values := w.values ++ done } : Ms).values.length = w.values.length + done.length := hk
    rw [hkk]
    have p2 : ∀ n, n < h2.next → (h2.push (AB.arr [si ((w.values.length + done.length : Nat) : Int)] 3)).get n = h2.get n := fun n hn => by rw [get_push ok2, if_neg (by omega)]
    refine WL.mem (v := .s (.slice h2.next 0 1 1 true 1)) (h' := h2.push (AB.arr [si ((w.values.length + done.length : Nat) : Int)] 3)) rfl rfl (by simp (disch := first | omega | assumption | (simp only [List.length_cons, List.length_nil, Nat.reduceAdd]; done) | (simp only [inHid_nil']; done) | ((repeat (first | apply Ok_push | apply Ok_put)); assumption)) only [go_sem, ↓reduceIte]) (fun j hj => by simp at hj; subst hj; exact ⟨_, rfl, flE_ld, flE_ev (h2 := h2.push (AB.arr [si ((w.values.length + done.length : Nat) : Int)] 3)) (by have := (p2 bx (by have := mv2.nx; omega)).trans b2; simp only [go_sem, ↓reduceIte, this]), sp.eqN⟩) ?_
    have sp2 := sp.keep (h' := h2) (fun n hn => g2 n (lo n hn).2.1 (lo n hn).2.2.1)
    have mn2 := mv2.nx
    obtain ⟨h4, e4, ok4, n4, kp4, kt4, sl4⟩ := sp2.app1 (bytes := 8) (row := [si ((w.values.length + done.length : Nat) : Int)]) (a := w.values.length + done.length) (ms := []) ok2 (fun n hn => by have := lo n hn; omega) rfl ⟨rfl, rfl⟩ (by rw [List.length_range']; omega) (by rw [List.length_range']; omega)
    have sl5 := sl4 (E' := EI) (fun _ _ _ _ h => h)
    rw [List.length_range'] at e4 sl5
    rw [range'_snoc] at sl5
    refine WL.mem (v := .s (.slice (h2.next + 1) 0 (done.length + 1) (done.length + 1) false 1)) (h' := h4) rfl rfl (by simp only [go_sem, ↓reduceIte, e4]) (fun j hj => by simp at hj) ?_
    refine WL.pure (v := .s (.ptr bx 0)) (by simp only [go_sem, ↓reduceIte]) ?_
    have bnp : bx ∉ nsp := fun h1 => (lo bx h1).2.2.2 rfl
    have b4 : h4.get bx = some (.arr [pp, .nilSlice, .nilSlice] 36) := (kp4 bx (by omega) bnp).trans b2
    refine WL.mem (v := .undef) (h' := h4.put bx (some (.arr [.slice (h2.next + 1) 0 (done.length + 1) (done.length + 1) false 1, .nilSlice, .nilSlice] 36))) rfl rfl (by simp (disch := first | omega | assumption | (simp only [List.length_cons, List.length_nil, Nat.reduceAdd]; done) | (simp only [inHid_nil']; done) | ((repeat (first | apply Ok_push | apply Ok_put)); assumption)) only [go_sem, ↓reduceIte, b4]) (fun j hj => by simp at hj) ?_
    refine WL.nil ?_
    obtain ⟨h5, e5⟩ : ∃ h5, h5 = h4.put bx (some (.arr [.slice (h2.next + 1) 0 (done.length + 1) (done.length + 1) false 1, .nilSlice, .nilSlice] 36)) := ⟨_, rfl⟩
    rw [← e5]
    have hbp : 1 ≤ bx := by omega
    have ok5 : Ok h5 := by rw [e5]; exact Ok_put ok4
    have g5 : ∀ n, n ≠ bx → h5.get n = h4.get n := fun n hn => by rw [e5, get_put ok4 hbp, if_neg hn]
    have b5 : h5.get bx = some (.arr [.slice (h2.next + 1) 0 (done.length + 1) (done.length + 1) false 1, .nilSlice, .nilSlice] 36) := by rw [e5, get_put ok4 hbp, if_pos rfl]
    have n5 : h5.next = h2.next + 2 := by rw [e5, Hp.next_put, n4]
    clear e5
    refine WB.c ?_
    unfold ic7_block
    have hlen2 : (done ++ [c]).length = done.length + 1 := by simp
    have hsucc : ((done.length : Int) + 1) = (((done ++ [c]).length : Nat) : Int) := by rw [hlen2]; omega
    simp (maxSteps := 1000000) (disch := first | omega | assumption | (simp only [List.length_cons, List.length_nil, Nat.reduceAdd]; done) | (simp only [inHid_nil']; done) | ((repeat (first | apply Ok_push | apply Ok_put)); assumption)) only [go_sem, ↓reduceIte, w64_ok, hsucc]
    have bn2 : bx ∉ ns2 := fun h1 => by
      rcases mv2.new bx h1 with h3 | h3
      · exact hb.2 h3
      · omega
    have lt2 := fun n hn => (mr2.lt n hn).2
    have ns2p : ∀ n ∈ ns2, n ∉ nsp := fun n hn h1 => by
      rcases mv2.new n hn with h3 | h3
      · exact (lo n h1).2.2.1 h3
      · have := (lo n h1).2.1; omega
    have k5 : ∀ n ∈ ns2, h5.get n = h2.get n := fun n hn => (g5 n (fun e => bn2 (e ▸ hn))).trans (kp4 n (lt2 n hn) (ns2p n hn))
    have mr5 := mr2.keep (h' := h5) k5 (by omega)
    have hns' : ∀ n, n < h.next → n ∉ ns → n ∉ ns' := fun n h1 h3 h4' => by
      rcases mv.new n h4' with h5' | h5'
      · exact h3 h5'
      · omega
    have old5 : ∀ n, n < h.next → n ∉ ns → h5.get n = hi.get n := fun n h1 h3 => (g5 n (by omega)).trans ((kp4 n (by have := mv.nx; omega) (fun h4' => by have := (lo n h4').1; omega)).trans (g2 n (by have := mv.nx; omega) (hns' n h1 h3)))
    have mv5 : Mv h h5 ns ns2 := ⟨ok5, by have := mv.nx; omega, fun n hn => (mv.trans mv2).new n hn, fun n h1 h3 => (old5 n h1 h3).trans (mv.keep n h1 h3)⟩
    have sl6 : Sl h5 3 1 false EI (.slice (h2.next + 1) 0 (done.length + 1) (done.length + 1) false 1) (List.range' w.values.length (done ++ [c]).length) ((h2.next + 1) :: (nsp.tail ++ [])) := by
      rw [hlen2]
      exact sl5.keep (fun n hn => g5 n (by
        rcases List.mem_cons.1 hn with rfl | hn
        · omega
        · exact (lo n (List.mem_of_mem_tail (by simpa using hn))).2.2.2))
    refine block_loop hns hbx1 hpos hcs hx hlen rest (done ++ [c]) (by rw [← hdn]; simp) ok5 (by simpa [List.append_assoc] using mr5) mv5 ⟨by omega, bn2⟩ b5 sl6 (fun n hn => ?_) ?_ (sx.keep (fun n hn => old5 n (hx n hn).1 (hx n hn).2)) hQ
    · rcases List.mem_cons.1 hn with rfl | hn
      · exact ⟨by omega, by omega, fun h1 => by have := lt2 _ h1; omega, by omega⟩
      · have h1 := List.mem_of_mem_tail (by simpa using hn)
        exact ⟨(lo n h1).1, by have := (lo n h1).2.1; omega, fun h3 => ns2p n h3 h1, (lo n h1).2.2.2⟩
    · exact nodup_app nd .nil (by simp) (fun h1 => by have := (lo _ h1).2.1; omega) (by simp)
end Go.Proofs.Ytaljcpoopmedmaa.Ev

/- The builders of functions: a block more. -/
namespace Go.Proofs.Ytaljcpoopmedmaa.Ev
open Go Go.RowKit Go.Proofs.Ytaljcpoopmedmaa.Ms
attribute [local go_sem] LD_head_callk zkH_some contH_hide W_skip W_ret W_exit W_seq W_block LW_cond zcO_bool W_region W_draw WO_nil LO_pure zpO_some LO_call zkO_some contO_eq LO_guard zgO_bool zgO_undef zmO_some WD_nil LD_pure zpD_some zmD_some LD_call zkD_some contD_eq LD_guard zgD_bool zgD_undef LD_head_pure zhpD_some LD_head_load zhlD_some LD_head_bslice zhaD_some zhbD_some thenQ_normal thenQ_exit thenQ_ret blkQ_normal blkQ_exit blkQ_ret loopQ_normal loopQ_exit loopQ_ret LO_new LO_box LO_bslice LO_mkslice LO_load LO_store LO_app LO_copy LO_clear LO_mkmap LO_look LO_mupd LO_slicea LO_boxc LD_new LD_box LD_bslice LD_mkslice LD_load LD_store LD_app LD_copy LD_clear LD_mkmap LD_look LD_mupd LD_slicea LD_boxc ev_l ev_g ev_c evs_nil evs_cons lget_zero lget_succ lset_zero lset_succ putD_none putD_some undefs_zero undefs_succ ob_s ob_n oif_ite svc_s svc_undef vInt_int vBool_bool sInt_int sBool_bool cel_s cel_agg mkAV_f mkAV_t celA_s celA_agg ltake_zero ltake_succ ldrop_zero ldrop_succ ldrop_nil llen_nil llen_cons lover_nil lover_cons loverAt_zero loverAt_succ nbeq_refl nbeq_eq nble_eq Lp_mm mmV_min mmV_max pop_mv Lp_pick pickO_bool pop_build fill_nil fill_cons Lp_bin binV_some pop_not pop_neg Lp_fld fldV_ptr fldV_cp pop_fval Lp_ext extO_tup mk1_some Lp_nchk nchkV_ptr nchkV_cp pop_conv pop_mkfun ptrs_nil ptrs_cons capAVs_nil capAVs_cons sPtrC_ptr sPtrC_cp sPtr_ptr Lp_len lenO_some lenV_nil lenV_lst lenV_slice numS_64 bin_add bin_sub bin_mul bin_quo_pos bin_rem_pos bin_shr_pos bin_eq bin_ne bin_lt bin_le bin_gt bin_ge Lp_ixs ixsO_some Lp_ixa ixaO_some Lr_one re1_f re1_t Lr_tmp reT_s reT_agg Lr_cell reP_some reC_ptr outP_some Lret_normal Lret_ret resAll_nil resAll_cons result_nil Lr_two re2_some ok_eq rdB_arr wrB_arr La_load loadO_ptr loadO_cp ldR_t ldR_f La_store stR_some La_mkslice mksO_some La_app appO_some bsO_some boxO_s boxO_agg fpV_ptr fpV_cp sel_nil sel_cons inHid_nil' inHid_cons' LV_ptr LV_cp mkL_t mkL_f Int.cast_ofNat_Int Int.natCast_zero Int.natCast_one decide_eq_true_eq decide_eq_false_iff_not Bool.false_eq_true and_true true_and List.cons_append List.nil_append reduceCtorEq decide_true decide_false Bool.not_true Bool.not_false Nat.add_zero Nat.zero_add Option.some.injEq Bool.true_eq_false not_true_eq_false not_false_eq_true Hp.next_push Hp.next_put Nat.add_assoc self_add add_self ixsV_slice1 ixaV_ptr ixaV_cp ixaV_ptr0 ixaV_ptr1 ixaV_cp0 ixaV_cp1 hid_ok get_hide La_bslice La_box aop_new storeO_s storeO_agg get_push get_put mksV_two ixsV_slice0 ixsV_slice Int.reduceToNat Nat.reduceAdd Nat.reduceMul Nat.reduceEqDiff Int.reduceEq Int.reduceLT Int.reduceLE Int.reduceNeg Int.reduceAdd Int.reduceSub Int.reduceMul Int.reduceNe
set_option linter.unusedVariables false
set_option linter.unusedSimpArgs false
set_option linter.unusedSectionVars false
set_option maxRecDepth 100000
set_option maxHeartbeats 2000000
theorem Wok.block {w : Ms} {N : Nat} (wk : Wok w N) (cs : List Nat) (h1 : cs.length ≤ 2) (h2 : ∀ c ∈ cs, c < 2) : Wok (blockS w cs) (N + 2) := by
  unfold blockS
  refine ⟨wk.m1, wk.m2, fun c hc => ?_, fun v hv => by have := wk.known v hv; simp; omega, by have := wk.cur; simp; omega, by have := wk.nv; simp; omega, by have := wk.nb; simp; omega, Nat.le_add_right_of_le wk.nk, fun b hb => ?_, Nat.le_add_right_of_le wk.na⟩
  · rcases List.mem_append.1 hc with h | h
    · exact wk.vals c h
    · exact h2 c h
  · rcases List.mem_append.1 hb with h | h
    · have := wk.ni b h; omega
    · obtain rfl := List.mem_singleton.1 h
      simp; omega
theorem block_ok {h : Hp} {p : Nat} {w : Ms} {ns : List Nat} (ok : Ok h) (mr : MR tt h p w ns) {N : Nat} (hnv : w.values.length ≤ N) (hnb : w.blocks.length ≤ N) (hN : N ≤ 79000) {cs : List Nat} {xo : SV} {nsx : List Nat} (sx : Sl h 3 1 true EI xo cs nsx) (hc : cs.length ≤ 2) (hcs : ∀ c ∈ cs, c < 2) (hx : ∀ n ∈ nsx, n < h.next ∧ n ∉ ns) :
    WC F2 29 [.s (.ptr p 0), .s xo] h (fun v h' => v = vi w.blocks.length ∧ ∃ ns', MR tt h' p (blockS w cs) ns' ∧ Mv h h' ns ns') := by
  refine WC_BX (q := qBlock) rfl ?_
  show WB F1 noB ib_block (.mk _ h) (retQ [(.tmp 2)] _)
  unfold ib_block
  have hpos := ok.pos
  refine WB.seq (WB.c ?_)
  unfold ic1_block
  simp (maxSteps := 1000000) (disch := first | omega | assumption | (simp only [List.length_cons, List.length_nil, Nat.reduceAdd]; done) | (simp only [inHid_nil']; done) | ((repeat (first | apply Ok_push | apply Ok_put)); assumption)) only [go_sem, ↓reduceIte]
  refine WB.seq (WB.c ?_)
  unfold ic2_block
  obtain ⟨hA, eA⟩ : ∃ hA, hA = (h.push (AB.arr [.nilSlice, .nilSlice, .nilSlice] 36)).put h.next (some (AB.arr [.nilSlice, .nilSlice, .nilSlice] 36)) := ⟨_, rfl⟩
  have okA : Ok hA := by rw [eA]; exact Ok_put (Ok_push ok)
  have gA : ∀ n, n < h.next → hA.get n = h.get n := fun n hn => by
    rw [eA, get_put (Ok_push ok) hpos, get_push ok, if_neg (by omega), if_neg (by omega)]
  have oA : hA.get h.next = some (AB.arr [.nilSlice, .nilSlice, .nilSlice] 36) := by
    rw [eA, get_put (Ok_push ok) hpos, if_pos rfl]
  have nA : hA.next = h.next + 1 := by rw [eA, Hp.next_put, Hp.next_push]
  simp (maxSteps := 1000000) (disch := first | omega | assumption | (simp only [List.length_cons, List.length_nil, Nat.reduceAdd]; done) | (simp only [inHid_nil']; done) | ((repeat (first | apply Ok_push | apply Ok_put)); assumption)) only [go_sem, ↓reduceIte]
  rw [← eA]
  clear eA
  refine WB.seq (WB.seq (WB.c ?_))
  unfold ic3_block
  have lx := sx.len
  simp (maxSteps := 1000000) (disch := first | omega | assumption | (simp only [List.length_cons, List.length_nil, Nat.reduceAdd]; done) | (simp only [inHid_nil']; done) | ((repeat (first | apply Ok_push | apply Ok_put)); assumption)) only [go_sem, ↓reduceIte, lx]
  have hns : ∀ n ∈ ns, n < h.next := fun n hn => (mr.lt n hn).2
  have mrA := mr.keep (h' := hA) (fun n hn => gA n (hns n hn)) (by omega)
  have mvA : Mv h hA ns ns := ⟨okA, by omega, fun n hn => .inl hn, fun n h1 h2 => gA n h1⟩
  refine WB.block (block_loop (w := w) (bx := h.next) (nsp := []) (pp := .nilSlice) hns (Nat.le_refl _) hpos hcs hx (by omega) cs [] rfl okA (by simpa using mrA) mvA ⟨by omega, fun h1 => by have := hns _ h1; omega⟩ oA Sl.nil (by simp) .nil (sx.keep (fun n hn => gA n (hx n hn).1)) ?_)
  intro hj ns2 nsp pp x3 x6 okj mrj mvj hbj gj sp lo nd
  refine WB.seq (WB.flo ?_)
  unfold fl2_block
  obtain ⟨⟨av, bv, kv, n1, n2, n3, hg, hv, hb, hk, rfl⟩, hd, hlt⟩ := mrj
  have hp := hlt p (by simp)
  have hpb : p ≠ h.next := fun e => hbj.2 (by simp [← e])
  have hfb : ∀ n ∈ nsp, n ≠ h.next := fun n hn => (lo n hn).2.2.2
  refine WL.pure (v := .s (.ptr p 0)) (by simp only [go_sem, ↓reduceIte]) ?_
  refine WL.pure (v := .s (.ptr p 0)) (by simp only [go_sem, ↓reduceIte]) ?_
  refine WL.pure (v := .s (.ptr p 0)) (by simp only [go_sem, ↓reduceIte]) ?_
  refine WL.pure (v := .s (.ptr p 2)) (by simp only [go_sem, ↓reduceIte]) ?_
  refine WL.pure (v := .s (.ptr p 3)) (by simp only [go_sem, ↓reduceIte]) ?_
  refine WL.ld (v := .s bv) (h' := hj) rfl (by simp only [go_sem, ↓reduceIte, hg]) (by simp) hb.eqN ?_
  have hag : eqN (.agg [pp, .nilSlice, .nilSlice]) (.agg [pp, .nilSlice, .nilSlice]) = true := by
    have : eqN1 pp pp = true := sp.eqN
    show oif (eqN1 pp pp) (oif true (oif true true false) false) false = true
    rw [this]; rfl
  refine WL.ld (v := .agg [pp, .nilSlice, .nilSlice]) (h' := hj) rfl (by simp only [go_sem, ↓reduceIte, gj]) (fun j hj => by simp at hj; subst hj; exact ⟨_, rfl, .inl flE_ld⟩) hag ?_
  have p2 : ∀ n, n < hj.next → (hj.push (AB.arr [pp, .nilSlice, .nilSlice] 36)).get n = hj.get n := fun n hn => by rw [get_push okj, if_neg (by omega)]
  refine WL.mem (v := .s (.slice hj.next 0 1 1 true 3)) (h' := hj.push (AB.arr [pp, .nilSlice, .nilSlice] 36)) rfl rfl (by simp (disch := first | omega | assumption | (simp only [List.length_cons, List.length_nil, Nat.reduceAdd]; done) | (simp only [inHid_nil']; done) | ((repeat (first | apply Ok_push | apply Ok_put)); assumption)) only [go_sem, ↓reduceIte]) (fun j hj' => by simp at hj'; subst hj'; exact ⟨_, rfl, flE_ld, flE_ev (h2 := hj.push (AB.arr [pp, .nilSlice, .nilSlice] 36)) (by have := (p2 p hp.2).trans hg; simp only [go_sem, ↓reduceIte, this]), hb.eqN⟩) ?_
  have hEB : EB tt hj [pp, .nilSlice, .nilSlice] (⟨List.range' w.values.length cs.length, [], []⟩ : Blk) nsp := ⟨pp, _, _, nsp, [], [], rfl, sp, Sl.nil, Sl.nil, by simp⟩
  obtain ⟨h4, e4, ok4, n4, kp4, kt4, sl4⟩ := hb.app1 (bytes := 72) (row := [pp, .nilSlice, .nilSlice]) (a := (⟨List.range' w.values.length cs.length, [], []⟩ : Blk)) (ms := nsp) okj (fun n hn => hlt n (by simp [hn])) rfl hEB (by simp only; omega) (by simp only; omega)
  refine WL.mem (v := .s (.slice (hj.next + 1) 0 (w.blocks.length + 1) (w.blocks.length + 1) false 3)) (h' := h4) rfl rfl (by simp only [go_sem, ↓reduceIte]; exact e4) (fun j hj => by simp at hj) ?_
  refine WL.pure (v := .s (.ptr p 0)) (by simp only [go_sem, ↓reduceIte]) ?_
  refine WL.pure (v := .s (.ptr p 2)) (by simp only [go_sem, ↓reduceIte]) ?_
  refine WL.pure (v := .s (.ptr p 3)) (by simp only [go_sem, ↓reduceIte]) ?_
  have hpn2 : p ∉ n2 := fun e => (List.nodup_cons.1 hd).1 (by simp [e])
  have p4 : h4.get p = _ := (kp4 p hp.2 hpn2).trans hg
  refine WL.mem (v := .undef) (h' := h4.put p (some (.arr [si w.m.1, si w.m.2, av, .slice (hj.next + 1) 0 (w.blocks.length + 1) (w.blocks.length + 1) false 3, si w.cur, kv, si w.all] tt.mas))) rfl rfl (by simp (disch := first | omega | assumption | (simp only [List.length_cons, List.length_nil, Nat.reduceAdd]; done) | (simp only [inHid_nil']; done) | ((repeat (first | apply Ok_push | apply Ok_put)); assumption)) only [go_sem, ↓reduceIte, p4]) (fun j hj => by simp at hj) ?_
  refine WL.nil ?_
  have hdt := (List.nodup_cons.1 hd).2
  have hd1 := List.nodup_append.1 hdt
  have hd2 := List.nodup_append.1 hd1.2.1
  have k1 : ∀ n ∈ n1, h4.get n = hj.get n := fun n hn => kp4 n (hlt n (by simp [hn])).2 (fun h1 => hd1.2.2 n hn n (by simp [h1]) rfl)
  have k3 : ∀ n ∈ n3, h4.get n = hj.get n := fun n hn => kp4 n (hlt n (by simp [hn])).2 (fun h1 => hd2.2.2 n h1 n hn rfl)
  have k2 : ∀ n ∈ n2.tail, h4.get n = hj.get n := fun n hn => kt4 n hn hd2.1
  have hfn : ∀ n ∈ nsp, n ∉ p :: (n1 ++ (n2 ++ n3)) := fun n hn => (lo n hn).2.2.1
  have k4 : ∀ n ∈ nsp, h4.get n = hj.get n := fun n hn => kp4 n (lo n hn).2.1 (fun h1 => hfn n hn (by simp [h1]))
  have sb := sl4 (E' := EB tt h4) (fun row a m hm k => k.keep (fun n hn => by
    rcases hm n hn with h1 | h1
    · exact k2 n h1
    · exact k4 n h1))
  have nd2 : ((hj.next + 1) :: (n2.tail ++ nsp)).Nodup := nodup_app hd2.1 nd (fun n hn h1 => hfn n hn (by simp [h1])) (fun h1 => by have := (hlt (hj.next + 1) (by simp [h1])).2; omega) (fun h1 => by have := (lo _ h1).2.1; omega)
  have nd3 : (n1 ++ (((hj.next + 1) :: (n2.tail ++ nsp)) ++ n3)).Nodup := nodup_repl2 hdt nd2 (fun n hn => by
    rcases List.mem_cons.1 hn with rfl | hn
    · exact .inr (fun h1 => by have := (hlt (hj.next + 1) (List.mem_cons_of_mem _ h1)).2; omega)
    · rcases List.mem_append.1 hn with hn | hn
      · exact .inl (List.mem_of_mem_tail hn)
      · exact .inr (fun h1 => hfn n hn (List.mem_cons_of_mem _ h1)))
  have mem3 : ∀ n ∈ n1 ++ (((hj.next + 1) :: (n2.tail ++ nsp)) ++ n3), n ∈ n1 ++ (n2 ++ n3) ∨ n = hj.next + 1 ∨ n ∈ nsp := fun n hn => by
    rcases List.mem_append.1 hn with hn | hn
    · exact .inl (by simp [hn])
    · rcases List.mem_append.1 hn with hn | hn
      · rcases List.mem_cons.1 hn with rfl | hn
        · exact .inr (.inl rfl)
        · rcases List.mem_append.1 hn with hn | hn
          · exact .inl (by simp [List.mem_of_mem_tail hn])
          · exact .inr (.inr hn)
      · exact .inl (by simp [hn])
  have nd4 : (p :: (n1 ++ (((hj.next + 1) :: (n2.tail ++ nsp)) ++ n3))).Nodup := List.nodup_cons.2 ⟨fun h1 => by
    rcases mem3 p h1 with h3 | h3 | h3
    · exact (List.nodup_cons.1 hd).1 h3
    · omega
    · exact hfn p h3 (by simp), nd3⟩
  have lt4 : ∀ n ∈ p :: (n1 ++ (((hj.next + 1) :: (n2.tail ++ nsp)) ++ n3)), 1 ≤ n ∧ n < h4.next := fun n hn => by
    rcases List.mem_cons.1 hn with rfl | hn
    · omega
    · rcases mem3 n hn with h3 | h3 | h3
      · have := hlt n (List.mem_cons_of_mem _ h3); omega
      · omega
      · have := lo n h3; omega
  have mr6 := MR.mk_put (t := tt) (w' := blockS w cs) (a := av) (b := .slice (hj.next + 1) 0 (w.blocks.length + 1) (w.blocks.length + 1) false 3) (k := kv) ok4 (hv.keep k1) sb (hk.keep k3) nd4 lt4
  have mv6 : Mv h (h4.put p (some (.arr [si w.m.1, si w.m.2, av, .slice (hj.next + 1) 0 (w.blocks.length + 1) (w.blocks.length + 1) false 3, si w.cur, kv, si w.all] tt.mas))) ns (p :: (n1 ++ (((hj.next + 1) :: (n2.tail ++ nsp)) ++ n3))) := by
    have hnx := mvj.nx
    refine ⟨Ok_put ok4, by rw [Hp.next_put]; omega, fun n hn => ?_, fun n h1 h3 => ?_⟩
    · rcases List.mem_cons.1 hn with rfl | hn
      · exact mvj.new n (by simp)
      · rcases mem3 n hn with h3 | h3 | h3
        · exact mvj.new n (List.mem_cons_of_mem _ h3)
        · exact .inr (by omega)
        · exact .inr (lo n h3).1
    · have hno : n ∉ p :: (n1 ++ (n2 ++ n3)) := fun h5 => by
        rcases mvj.new n h5 with h6 | h6
        · exact h3 h6
        · omega
      rw [get_put ok4 hp.1, if_neg (fun e => hno (by simp [e])), kp4 n (by omega) (fun h5 => hno (by simp [h5]))]
      exact mvj.keep n h1 h3
  have ok6 := mv6.ok
  have g6 : (h4.put p (some (.arr [si w.m.1, si w.m.2, av, .slice (hj.next + 1) 0 (w.blocks.length + 1) (w.blocks.length + 1) false 3, si w.cur, kv, si w.all] tt.mas))).get p = some (.arr [si w.m.1, si w.m.2, av, .slice (hj.next + 1) 0 (w.blocks.length + 1) (w.blocks.length + 1) false 3, si w.cur, kv, si w.all] tt.mas) := by
    rw [get_put ok4 hp.1, if_pos rfl]
  refine WB.seq (WB.c ?_)
  unfold ic8_block
  have hs : (((w.blocks.length + 1 : Nat) : Int) - 1) = (w.blocks.length : Int) := by omega
  simp (maxSteps := 1000000) (disch := first | omega | assumption | (simp only [List.length_cons, List.length_nil, Nat.reduceAdd]; done) | (simp only [inHid_nil']; done) | ((repeat (first | apply Ok_push | apply Ok_put)); assumption)) only [go_sem, ↓reduceIte, g6, w64_ok, hs]
  refine WB.c ?_
  unfold ic9_block
  simp (maxSteps := 1000000) (disch := first | omega | assumption | (simp only [List.length_cons, List.length_nil, Nat.reduceAdd]; done) | (simp only [inHid_nil']; done) | ((repeat (first | apply Ok_push | apply Ok_put)); assumption)) only [go_sem, ↓reduceIte]
  exact ⟨_, mr6, mv6⟩
end Go.Proofs.Ytaljcpoopmedmaa.Ev

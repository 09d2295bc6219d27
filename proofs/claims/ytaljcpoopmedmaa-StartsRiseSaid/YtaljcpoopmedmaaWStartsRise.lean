/- Code of functions as the interpreter has it prepared, cut at loops. -/
import Derived.Test.YtaljcpoopmedmaaMc10
import Derived.Test.YtaljcpoopmedmaaKit
namespace Go.Proofs.Ytaljcpoopmedmaa.Ev
open Go Go.RowKit
set_option linter.unusedVariables false
set_option maxRecDepth 100000
def sq1_rise : IC := (.seq (.block 1 (.seq (.region [(.mk .none (.p (.mv (.g 10))) .none), (.mk .none (.p (.ixs 3 (.g 7) (.g 10))) .none), (.mk .none (.a (.load 3 true (.l 0))) .none), (.mk (.some 5) (.a (.new 36 [.nilSlice, .nilSlice, .nilSlice])) .none), (.mk (.some 6) (.p (.mv (.l 3))) .none), (.mk .none (.a (.store 3 (.l 1) (.l 2))) .none)]) (.seq (.draw [((.mk .none (.p (.mv (.g 12))) .none), .none), ((.mk .none (.p (.mv (.g 6))) .none), .none), ((.mk .none (.p (.bin .add (.l 0) (.c (.s (.int .i64 1))))) .none), .none), ((.mk .none (.p (.ixs 1 (.l 2) (.l 0))) .none), .none), ((.mk .none (.a (.load 1 false (.l 0))) .none), (.some [])), ((.mk .none (.p (.mv (.g 12))) .none), .none), ((.mk .none (.p (.mv (.g 6))) .none), .none), ((.mk .none (.p (.ixs 1 (.l 1) (.l 0))) .none), .none), ((.mk .none (.a (.load 1 false (.l 0))) .none), (.some [3])), ((.mk .none (.p (.bin .add (.l 0) (.c (.s (.int .i64 2))))) .none), .none), ((.mk .none (.p (.fld 1 (.g 5))) .none), .none), ((.mk .none (.a (.load 1 false (.l 0))) .none), (.some [2, 6])), ((.mk .none (.p (.len (.l 0))) .none), .none), ((.mk .none (.p (.bin .mul (.c (.s (.int .i64 2))) (.l 0))) .none), .none), ((.mk .none (.p (.bin .add (.l 4) (.l 0))) .none), .none), ((.mk (.some 4) (.p (.bin .ne (.l 10) (.l 0))) .none), .none)]) (.cond (.g 4) (.seq (.region [(.mk (.some 3) (.p (.mv (.c (.s (.bool false))))) .none)]) .ret) .skip)))) (.region [(.mk .none (.p (.bin .add (.g 10) (.c (.s (.int .i64 1))))) .none), (.mk (.some 10) (.p (.mv (.l 0))) .none)]))
def lp1_rise : IC := (.seq (.region [(.mk (.some 8) (.p (.bin .lt (.g 10) (.g 9))) .none)]) (.seq (.cond (.g 8) .skip (.exit 0)) sq1_rise))
def sq2_rise : IC := (.seq (.seq (.region [(.mk .none (.p (.fld 1 (.g 13))) .none), (.mk (.some 7) (.a (.load 1 false (.l 0))) .none), (.mk (.some 9) (.p (.len (.l 0))) .none), (.mk (.some 10) (.p (.mv (.c (.s (.int .i64 0))))) .none)]) (.block 0 (.loop lp1_rise))) (.seq (.region [(.mk (.some 3) (.p (.mv (.c (.s (.bool true))))) .none)]) .ret))
def bd_rise : IC := (.seq (.region [(.mk (.some 3) (.p (.mv (.c (.s (.bool false))))) .none)]) (.seq (.region [(.mk .none (.p (.mv (.g 0))) .none), (.mk .none (.p (.mv (.g 1))) .none), (.mk .none (.a (.call 17 [(.l 1), (.l 0)])) .none), (.mk .none (.p (.mv (.g 2))) .none), (.mk .none (.a (.call 16 [(.l 1), (.l 0)])) .none), (.mk (.some 13) (.a (.new 26 [.nilSlice, .nilSlice])) .none), (.mk .none (.a (.store 2 (.l 0) (.l 1))) .none)]) (.seq (.region [(.mk .none (.a (.load 2 true (.g 13))) .none), (.mk .none (.a (.call 18 [(.l 0)])) .none), (.mk (.some 12) (.p (.mv (.l 0))) .none)]) (.seq (.seq (.region [(.mk .none (.p (.mv (.g 12))) .none), (.mk .none (.p (.len (.l 0))) .none), (.mk .none (.p (.fld 1 (.g 13))) .none), (.mk .none (.a (.load 1 false (.l 0))) .none), (.mk .none (.p (.len (.l 0))) .none), (.mk .none (.p (.bin .add (.l 0) (.c (.s (.int .i64 1))))) .none), (.mk .none (.p (.bin .ne (.l 4) (.l 0))) .none), (.mk .none (.p (.mv (.l 0))) .none), (.mk .none (.p (.mv (.g 12))) (.some (0, false))), (.mk .none (.p (.ixs 1 (.l 0) (.c (.s (.int .i64 0))))) (.some (1, false))), (.mk .none (.a (.load 1 false (.l 0))) (.some (2, false))), (.mk .none (.p (.bin .ne (.l 0) (.c (.s (.int .i64 0))))) (.some (3, false))), (.mk (.some 11) (.p (.pick (.l 4) (.c (.s (.bool true))) (.l 0))) .none)]) (.cond (.g 11) (.seq (.region [(.mk (.some 3) (.p (.mv (.c (.s (.bool false))))) .none)]) .ret) .skip)) sq2_rise))))
theorem T_rise : T 3 = some (.mk bd_rise 3 11 [(.tmp 3)]) := by kernel_rfl
end Go.Proofs.Ytaljcpoopmedmaa.Ev

/- Functions, machines, beginnings: answered at once. A law of beginnings. -/
namespace Go.Proofs.Ytaljcpoopmedmaa.Ev
open Go Go.RowKit Go.Proofs.Ytaljcpoopmedmaa.Ms
attribute [local go_sem] LD_head_callk zkH_some contH_hide W_skip W_ret W_exit W_seq W_block LW_cond zcO_bool W_region W_draw WO_nil LO_pure zpO_some LO_call zkO_some contO_eq LO_guard zgO_bool zgO_undef zmO_some WD_nil LD_pure zpD_some zmD_some LD_call zkD_some contD_eq LD_guard zgD_bool zgD_undef LD_head_pure zhpD_some LD_head_load zhlD_some LD_head_bslice zhaD_some zhbD_some thenQ_normal thenQ_exit thenQ_ret blkQ_normal blkQ_exit blkQ_ret loopQ_normal loopQ_exit loopQ_ret LO_new LO_box LO_bslice LO_mkslice LO_load LO_store LO_app LO_copy LO_clear LO_mkmap LO_look LO_mupd LO_slicea LO_boxc LD_new LD_box LD_bslice LD_mkslice LD_load LD_store LD_app LD_copy LD_clear LD_mkmap LD_look LD_mupd LD_slicea LD_boxc ev_l ev_g ev_c evs_nil evs_cons lget_zero lget_succ lset_zero lset_succ putD_none putD_some undefs_zero undefs_succ ob_s ob_n oif_ite svc_s svc_undef vInt_int vBool_bool sInt_int sBool_bool cel_s cel_agg mkAV_f mkAV_t celA_s celA_agg ltake_zero ltake_succ ldrop_zero ldrop_succ ldrop_nil llen_nil llen_cons lover_nil lover_cons loverAt_zero loverAt_succ nbeq_refl nbeq_eq nble_eq Lp_mm mmV_min mmV_max pop_mv Lp_pick pickO_bool pop_build fill_nil fill_cons Lp_bin binV_some pop_not pop_neg Lp_fld fldV_ptr fldV_cp pop_fval Lp_ext extO_tup mk1_some Lp_nchk nchkV_ptr nchkV_cp pop_conv pop_mkfun ptrs_nil ptrs_cons capAVs_nil capAVs_cons sPtrC_ptr sPtrC_cp sPtr_ptr Lp_len lenO_some lenV_nil lenV_lst lenV_slice numS_64 bin_add bin_sub bin_mul bin_quo_pos bin_rem_pos bin_shr_pos bin_eq bin_ne bin_lt bin_le bin_gt bin_ge Lp_ixs ixsO_some Lp_ixa ixaO_some Lr_one re1_f re1_t Lr_tmp reT_s reT_agg Lr_cell reP_some reC_ptr outP_some Lret_normal Lret_ret resAll_nil resAll_cons result_nil Lr_two re2_some ok_eq rdB_arr wrB_arr La_load loadO_ptr loadO_cp ldR_t ldR_f La_store stR_some La_mkslice mksO_some La_app appO_some bsO_some boxO_s boxO_agg fpV_ptr fpV_cp sel_nil sel_cons inHid_nil' inHid_cons' LV_ptr LV_cp mkL_t mkL_f Int.cast_ofNat_Int Int.natCast_zero Int.natCast_one decide_eq_true_eq decide_eq_false_iff_not Bool.false_eq_true and_true true_and List.cons_append List.nil_append reduceCtorEq decide_true decide_false Bool.not_true Bool.not_false Nat.add_zero Nat.zero_add Option.some.injEq Bool.true_eq_false not_true_eq_false not_false_eq_true Hp.next_push Hp.next_put Nat.add_assoc self_add add_self ixsV_slice1 ixaV_ptr ixaV_cp ixaV_ptr0 ixaV_ptr1 ixaV_cp0 ixaV_cp1 hid_ok get_hide La_bslice La_box aop_new storeO_s storeO_agg get_push get_put mksV_two ixsV_slice0 ixsV_slice Int.reduceToNat Nat.reduceAdd Nat.reduceMul Nat.reduceEqDiff Int.reduceEq Int.reduceLT Int.reduceLE Int.reduceNeg Int.reduceAdd Int.reduceSub Int.reduceMul Int.reduceNe
set_option linter.unusedVariables false
set_option linter.unusedSimpArgs false
set_option linter.unusedSectionVars false
set_option maxRecDepth 100000
set_option maxHeartbeats 2000000
theorem Wok.pieces : ∀ (l : List Pc) {w : Ms} {N : Nat}, Wok w N → Wok (l.foldl pieceS w) (N + 100 * l.length)
  | [], w, N, wk => wk
  | p :: l, w, N, wk => (Wok.pieces l (wk.piece p)).le (by simp only [List.length_cons]; omega)
theorem func_wok {m : Nat × Nat} (m1 : 2 ≤ m.1 ∧ m.1 ≤ 10) (m2 : 2 ≤ m.2 ∧ m.2 ≤ 10) (l : List Pc) : Wok (layS ((l.take 24).foldl pieceS (startS m)) ⟨0, 0, 1, 0, 0, 0, 3⟩) 2520 := by
  have wk1 : Wok (startS m) 10 := ⟨m1, m2, by simp [startS], by simp [startS], by simp [startS], by simp [startS], by simp [startS], by simp [startS], by simp [startS], by simp [startS]⟩
  exact ((Wok.pieces (l.take 24) wk1).lay ⟨0, 0, 1, 0, 0, 0, 3⟩).le (by rw [List.length_take]; omega)
def S3 (f : FuncId) : Bool := Nat.beq f 16 || (Nat.beq f 17 || Nat.beq f 18)
noncomputable def F3 : Fns := PX S3 F2
theorem env3 {A : Nat → Int} : Env Try.prog A tys F3 := PX_env env2
theorem F3_func {h : Hp} {m : Nat × Nat} {l : List Pc} (m1 : 2 ≤ m.1 ∧ m.1 ≤ 10) (m2 : 2 ≤ m.2 ∧ m.2 ≤ 10) (pin : ∀ q ∈ l, Pin q) {xl : SV} (lx : LstE encP 7 xl l) : fnsX F3 16 [.agg (encM m), .s xl] h = some (.agg (encF (funcS m l)), h) :=
  PX_pure rfl (by show oif true (oif (grd xl) true false) false = true; rw [lx.grd]; rfl) (func_run Ok_h0 m1 m2 pin lx)
theorem F3_machine {h : Hp} {a b : Int} (ha : In6 a) (hb : In6 b) : fnsX F3 17 [vi a, vi b] h = some (.agg (encM (machS a b)), h) :=
  PX_pure rfl rfl (machine_run Ok_h0 ha hb)
theorem F3_starts {h : Hp} {f : Fc} (hlen : f.blocks.length ≤ 10000) (hin : ∀ b ∈ f.blocks, b.instrs.length ≤ 10000) : fnsX F3 18 [.agg (encF f)] h = some (.s (encL encI (startsS f.blocks)), h) :=
  PX_pure rfl (by obtain ⟨v, b⟩ := f; cases v <;> cases b <;> rfl) (starts_run Ok_h0 hlen hin)
theorem no3 {f : FuncId} (h1 : S1 f = false) (h2 : Nat.beq f qBlock.f = false) (h3 : S3 f = false) {vs : List AV} {h : Hp} : fnsX F3 f vs h = none := (PX_low h3).trans (no2 h1 h2)
theorem WC_func {h : Hp} {m : Nat × Nat} {l : List Pc} (m1 : 2 ≤ m.1 ∧ m.1 ≤ 10) (m2 : 2 ≤ m.2 ∧ m.2 ≤ 10) (pin : ∀ q ∈ l, Pin q) {xl : SV} (lx : LstE encP 7 xl l) {Q : AV → Hp → Prop} : WC F3 16 [.agg (encM m), .s xl] h Q = Q (.agg (encF (funcS m l))) h := WC_ans_eq (F3_func m1 m2 pin lx)
theorem WC_machine {h : Hp} {a b : Int} (ha : In6 a) (hb : In6 b) {Q : AV → Hp → Prop} : WC F3 17 [vi a, vi b] h Q = Q (.agg (encM (machS a b))) h := WC_ans_eq (F3_machine ha hb)
theorem WC_starts {h : Hp} {f : Fc} (hlen : f.blocks.length ≤ 10000) (hin : ∀ b ∈ f.blocks, b.instrs.length ≤ 10000) {Q : AV → Hp → Prop} : WC F3 18 [.agg (encF f)] h Q = Q (.s (encL encI (startsS f.blocks))) h := WC_ans_eq (F3_starts hlen hin)
/-- the law's loop -/
theorem rise_loop {f : Fc} (hb1 : f.blocks.length ≤ 10000) (hb2 : ∀ b ∈ f.blocks, b.instrs.length ≤ 10000) {x0 x1 x2 x3 x13 : AV} {Q : Ex → St → Prop} :
    ∀ (rest done : List Blk) (_ : done ++ rest = f.blocks) {hi : Hp} (_ : Ok hi) {x4 x5 x6 x8 x11 : AV}
      (hQ : ∀ hj x4 x5 x6 x8, Q (.exit 0) (.mk [x0, x1, x2, x3, x4, x5, x6, .s (encL encB f.blocks), x8, vi f.blocks.length, vi f.blocks.length, x11, .s (encL encI (startsS f.blocks)), x13] hj)),
      W F3 lp1_rise.loop (.mk [x0, x1, x2, x3, x4, x5, x6, .s (encL encB f.blocks), x8, vi f.blocks.length, vi done.length, x11, .s (encL encI (startsS f.blocks)), x13] hi) Q
  | [], done, hdn, hi, ok, x4, x5, x6, x8, x11, hQ => by
    rw [List.append_nil] at hdn
    rw [W_loop]
    unfold lp1_rise
    rw [hdn]
    simp (maxSteps := 1000000) (disch := first | omega | assumption | (simp only [List.length_cons, List.length_nil, Nat.reduceAdd]; done) | (simp only [inHid_nil']; done) | ((repeat (first | apply Ok_push | apply Ok_put)); assumption)) only [go_sem, ↓reduceIte, Int.lt_irrefl]
    exact hQ hi _ _ _ _
  | x :: rest, done, hdn, hi, ok, x4, x5, x6, x8, x11, hQ => by
    have hlt1 : done.length < f.blocks.length := by rw [← hdn]; simp
    have hlt : (done.length : Int) < f.blocks.length := by omega
    have hget : f.blocks[done.length]? = some x := by rw [← hdn]; simp
    have hx := hb2 x (List.mem_of_getElem? hget)
    have hix := ixsV_encL (enc := encB) (size := 3) hget rfl
    have hdn' : (done ++ [x]) ++ rest = f.blocks := by rw [← hdn]; simp
    have hlen2 : (done ++ [x]).length = done.length + 1 := by simp
    have hsucc : ((done.length : Int) + 1) = (((done ++ [x]).length : Nat) : Int) := by rw [hlen2]; omega
    have hpos := ok.pos
    have li := lenV_encL (enc := encX) (l := x.instrs)
    obtain ⟨n, hn1, hn2⟩ := starts_next hget
    rw [← hlen2] at hn2
    have hnb := starts_bound hb2 hb1 n (List.mem_of_getElem? hn1)
    have hi1 := ixsV_encL (enc := encI) (size := 1) hn1 rfl
    have hi2 := ixsV_encL (enc := encI) (size := 1) hn2 rfl
    obtain ⟨q, hq⟩ : ∃ q, n + 2 + 2 * x.instrs.length = q := ⟨_, rfl⟩
    rw [hq] at hi2
    have hsum : (n : Int) + 2 + 2 * (x.instrs.length : Int) = (q : Int) := by omega
    obtain ⟨hA, eA⟩ : ∃ hA, (hi.push (AB.arr [.nilSlice, .nilSlice, .nilSlice] 36)).put hi.next (some (.arr (encB x) 36)) = hA := ⟨_, rfl⟩
    have okA : Ok hA := by rw [← eA]; exact Ok_put (Ok_push ok)
    have xA : hA.get hi.next = some (.arr (encB x) 36) := by rw [← eA, get_put (Ok_push ok) hpos, if_pos rfl]
    unfold encB at xA eA
    rw [W_loop]
    unfold lp1_rise sq1_rise
    have hqq : ((q : Int) ≠ (q : Int)) = False := by simp
    simp (maxSteps := 1000000) (disch := first | omega | assumption | (simp only [List.length_cons, List.length_nil, Nat.reduceAdd]; done) | (simp only [inHid_nil']; done) | ((repeat (first | apply Ok_push | apply Ok_put)); assumption)) only [go_sem, ↓reduceIte, eq_true hlt, hix, encB, eA, xA, hsucc, hi1, hi2, encI, li, w64_ok, hsum, hqq]
    exact rise_loop hb1 hb2 rest (done ++ [x]) hdn' okA hQ
theorem rise_run {h : Hp} (ok : Ok h) {a b : Int} {l : List Pc} (ha : In6 a) (hb : In6 b) (pin : ∀ q ∈ l, Pin q) {xl : SV} (lx : LstE encP 7 xl l) : WC F3 3 [vi a, vi b, .s xl] h (fun v _ => v = .s (.bool true)) := by
  refine WC_run (no3 rfl rfl rfl) T_rise rfl ?_
  unfold bd_rise
  have hpos := ok.pos
  obtain ⟨m1, m2⟩ := mach_ok a b
  obtain ⟨m, em⟩ : ∃ m, machS a b = m := ⟨_, rfl⟩
  rw [em] at m1 m2
  have wf := func_wok m1 m2 l
  obtain ⟨f, ef⟩ : ∃ f, funcS m l = f := ⟨_, rfl⟩
  have hb1 : f.blocks.length ≤ 10000 := by
    rw [← ef]; exact Nat.le_trans wf.nb (by omega)
  have hb2 : ∀ b ∈ f.blocks, b.instrs.length ≤ 10000 := by
    rw [← ef]; intro b hm; have := (wf.ni b hm).1; omega
  have ll := lenV_encL (enc := encB) (l := f.blocks)
  have ls := lenV_encL (enc := encI) (l := startsS f.blocks)
  rw [starts_len] at ls
  simp (maxSteps := 1000000) (disch := first | omega | assumption | (simp only [List.length_cons, List.length_nil, Nat.reduceAdd]; done) | (simp only [inHid_nil']; done) | ((repeat (first | apply Ok_push | apply Ok_put)); assumption)) only [go_sem, ↓reduceIte, WC_machine ha hb, em]
  refine WC_ans (F3_func m1 m2 pin lx) ?_
  rw [ef]
  obtain ⟨hA, eA⟩ : ∃ hA, (h.push (AB.arr [.nilSlice, .nilSlice] 26)).put h.next (some (.arr (encF f) 26)) = hA := ⟨_, rfl⟩
  have okA : Ok hA := by rw [← eA]; exact Ok_put (Ok_push ok)
  have xA : hA.get h.next = some (.arr (encF f) 26) := by rw [← eA, get_put (Ok_push ok) hpos, if_pos rfl]
  unfold encF at xA eA
  have i0 := ixsV_encL (enc := encI) (size := 1) (starts_zero f.blocks) rfl
  have i0' : ixsV 1 (.s (encL encI (startsS f.blocks))) (vi 0) = some (.s (.cp (encI 0))) := i0
  simp (maxSteps := 1000000) (disch := first | omega | assumption | (simp only [List.length_cons, List.length_nil, Nat.reduceAdd]; done) | (simp only [inHid_nil']; done) | ((repeat (first | apply Ok_push | apply Ok_put)); assumption)) only [go_sem, ↓reduceIte, encF, eA, xA]
  refine WC_ans (F3_starts (f := f) hb1 hb2) ?_
  have hs1 : (f.blocks.length : Int) + 1 = ((f.blocks.length + 1 : Nat) : Int) := by omega
  have hss : (((f.blocks.length + 1 : Nat) : Int) ≠ ((f.blocks.length + 1 : Nat) : Int)) = False := by simp
  simp (maxSteps := 1000000) (disch := first | omega | assumption | (simp only [List.length_cons, List.length_nil, Nat.reduceAdd]; done) | (simp only [inHid_nil']; done) | ((repeat (first | apply Ok_push | apply Ok_put)); assumption)) only [go_sem, ↓reduceIte, xA, ls, ll, w64_ok, hs1, i0', encI, hss]
  unfold sq2_rise
  simp (maxSteps := 1000000) (disch := first | omega | assumption | (simp only [List.length_cons, List.length_nil, Nat.reduceAdd]; done) | (simp only [inHid_nil']; done) | ((repeat (first | apply Ok_push | apply Ok_put)); assumption)) only [go_sem, ↓reduceIte, xA, ll]
  refine rise_loop hb1 hb2 f.blocks [] rfl okA (fun hj x4 x5 x6 x8 => ?_)
  simp (maxSteps := 1000000) (disch := first | omega | assumption | (simp only [List.length_cons, List.length_nil, Nat.reduceAdd]; done) | (simp only [inHid_nil']; done) | ((repeat (first | apply Ok_push | apply Ok_put)); assumption)) only [go_sem, ↓reduceIte]
end Go.Proofs.Ytaljcpoopmedmaa.Ev

/- Lists of structs of seven numbers, as they lie in memory. -/
namespace Go.Proofs.Ytaljcpoopmedmaa
open Go.ChangeShapes Go.WideShapes Go.ChangeAt Go.RowKit
set_option linter.unusedVariables false
/-- a slice's cells: rows of numbers, from a place of one block on -/
structure Recs (nf : Nat) (w : World) (A : Option Addr) (xs : List (List Int)) : Prop where
  len : ∀ x ∈ xs, x.length = nf
  wf : ∀ x ∈ xs, ∀ n ∈ x, (Lit.int .i64 n).wf = true
  at_ : xs = [] ∨ ∃ b off, A = some ⟨b, off, none⟩ ∧ ∀ (i : Nat) (x : List Int) (j : Nat) (n : Int), xs[i]? = some x → x[j]? = some n → w.cell? ⟨b, off + i * nf + j, none⟩ = some (.int .i64 n)
section
variable {H : Type} {enc : TypeId × Value → H} {P : Program} {W : World}
theorem open_recs {t e : TypeId} {fs : Array Field} {nf : Nat} {v : Value} {d : DataW H} {ps : List MemPlace} {base : Nat} (ht : P.underlying t = some (.slice e)) (he : P.underlying e = some (.struct fs)) (hn : fs.size = nf) (hpos : 0 < nf) (ce : P.cellsOf e = nf)
    (hf : ∀ (i : Nat) (f : Field), fs[i]? = some f → f.offset = i ∧ P.cellsOf f.type = 1 ∧ P.underlying f.type = some (.int .i64))
    (hv : Value.okWide P W .any base t v) (h : DataW.Trod enc P W 0 (fun _ => true) true t v d ps) :
    ∃ A len cap xs, v = .slice A len cap ∧ xs.length = len ∧ len ≤ cap ∧ (A = none → cap = 0) ∧ Recs nf W A xs := by
  obtain ⟨A, len, cap, rfl⟩ := okWide_slice ht hv
  obtain ⟨fuel, hfu⟩ := h
  rcases Deep.open_slice ht hfu with ⟨hcs, _⟩ | ⟨x, l, c, m, n, D, Pl, hcs, hb, hl, hm, hmm, _, hx⟩
  · simp [Value.cells] at hcs
    obtain ⟨rfl, rfl, rfl⟩ := hcs
    exact ⟨_, _, _, [], rfl, rfl, by omega, fun _ => rfl, ⟨by simp, by simp, .inl rfl⟩⟩
  · simp [Value.cells] at hcs
    obtain ⟨rfl, rfl, rfl⟩ := hcs
    have hm' : m = cap := by simpa using hmm
    subst hm'
    have each : ∀ i, i < len → ∃ r : List Int, r.length = nf ∧ (∀ n ∈ r, (Lit.int .i64 n).wf = true) ∧ ∀ j n, r[j]? = some n → W.cell? ((x.add (i * nf)).add j) = some (.int .i64 n) := by
      intro i hi
      obtain ⟨cs', h1, h2⟩ := hx i (by omega)
      rw [ce] at h1
      obtain ⟨_, hlen, hcell⟩ := World.cells?_some h1
      obtain ⟨ys, k, hk, hxy, _, hxl, hff⟩ := DataW.trod_struct he h2
      have one : ∀ j, j < nf → ∃ n, cs'[j]? = some (.int .i64 n) ∧ (Lit.int .i64 n).wf = true := by
        intro j hj
        obtain ⟨f, hf0⟩ : ∃ f, fs[j]? = some f := ⟨_, Array.getElem?_eq_getElem (by omega)⟩
        obtain ⟨f1, f2, f3⟩ := hf j f hf0
        have h3 := hff j f hf0
        rw [f1, f2] at h3
        rw [List.getElem?_eq_getElem (by omega)] at h3
        obtain ⟨n, h4, _, h5⟩ := DataW.trod_int f3 h3
        refine ⟨n, ?_, h5⟩
        have hj' : j < cs'.length := by omega
        rw [List.drop_eq_getElem_cons hj', List.take_succ_cons, List.take_zero] at h4
        rw [List.getElem?_eq_getElem hj', (List.cons.inj h4).1]
      refine ⟨cs'.map (fun v => match v with | .int _ n => n | _ => 0), by rw [List.length_map]; exact hlen, fun n hn => ?_, fun j n hj => ?_⟩
      · obtain ⟨u, hu, rfl⟩ := List.mem_map.1 hn
        obtain ⟨j, hj, rfl⟩ := List.mem_iff_getElem.1 hu
        obtain ⟨n, h3, h4⟩ := one j (by omega)
        rw [List.getElem?_eq_getElem hj] at h3
        rw [Option.some.inj h3]
        exact h4
      · rw [List.getElem?_map] at hj
        obtain ⟨u, hu, hun⟩ := Option.map_eq_some_iff.1 hj
        have hjl : j < cs'.length := by
          rcases Nat.lt_or_ge j cs'.length with h3 | h3
          · exact h3
          · rw [List.getElem?_eq_none h3] at hu; cases hu
        obtain ⟨n', h3, h4⟩ := one j (by omega)
        rw [h3] at hu
        cases hu
        have hc := hcell j (by omega)
        rw [h3] at hc
        rw [hc]
        exact congrArg (fun z => some (Value.int .i64 z)) hun
    obtain ⟨q, hq⟩ := Deep.choose_lt each
    refine ⟨_, _, _, (List.range len).map q, rfl, by simp, hl, fun e => (by cases e), ⟨fun r hr => ?_, fun r hr => ?_, ?_⟩⟩
    · obtain ⟨i, hi, rfl⟩ := List.mem_map.1 hr
      exact (hq i (by simpa using hi)).1
    · obtain ⟨i, hi, rfl⟩ := List.mem_map.1 hr
      exact (hq i (by simpa using hi)).2.1
    · rcases Nat.eq_zero_or_pos len with h0 | h0
      · subst h0; exact .inl rfl
      · right
        have get : ∀ (i : Nat) (r : List Int) (j : Nat) (n : Int), ((List.range len).map q)[i]? = some r → r[j]? = some n → i < len ∧ r = q i := fun i r j n h1 h2 => by
          rw [List.getElem?_map] at h1
          obtain ⟨k, hk, rfl⟩ := Option.map_eq_some_iff.1 h1
          have hi : i < len := by
            rcases Nat.lt_or_ge i len with h3 | h3
            · exact h3
            · rw [List.getElem?_eq_none (by simpa using h3)] at hk; cases hk
          rw [List.getElem?_eq_getElem (by simpa using hi), List.getElem_range] at hk
          cases hk
          exact ⟨hi, rfl⟩
        have hx0 : x = ⟨x.block, x.off, none⟩ := by
          obtain ⟨r1, r2, r3⟩ := hq 0 h0
          obtain ⟨n, hn0⟩ : ∃ n, (q 0)[0]? = some n := ⟨_, List.getElem?_eq_getElem (by omega)⟩
          have := r3 0 n hn0
          rw [Nat.zero_mul, show ∀ y : Addr, y.add 0 = y from fun y => by unfold Addr.add; simp, show ∀ y : Addr, y.add 0 = y from fun y => by unfold Addr.add; simp] at this
          exact spot_none this
        refine ⟨x.block, x.off, by rw [← hx0], fun i r j n h1 h2 => ?_⟩
        obtain ⟨hi, rfl⟩ := get i r j n h1 h2
        have := (hq i hi).2.2 j n h2
        rw [hx0] at this
        have e1 : ∀ (b o k : Nat), (⟨b, o, none⟩ : Addr).add k = ⟨b, o + k, none⟩ := fun b o k => by
          unfold Addr.add
          split
          · rename_i h; subst h; rfl
          · rfl
        rw [e1, e1] at this
        exact this
end
end Go.Proofs.Ytaljcpoopmedmaa

/- A list of pieces that a caller hands over: what the interpreter sees of it. -/
namespace Go.Proofs.Ytaljcpoopmedmaa.Ev
open Go Go.RowKit Go.Proofs.Ytaljcpoopmedmaa.Ms
set_option linter.unusedVariables false
theorem cell_block {w : World} {b k : Nat} {u : Value} (h : w.cell? ⟨b, k, none⟩ = some u) : ∃ c e fr, w.heap[b]? = some (.cells c e fr) ∧ c[k]? = some u := by
  unfold World.cell? at h
  simp only at h
  split at h
  · rename_i c e fr hb
    exact ⟨c, _, _, hb, by simpa using h⟩
  · cases h
def toPc (x : List Int) : Pc := ⟨x.getD 0 0, x.getD 1 0, x.getD 2 0, x.getD 3 0, x.getD 4 0, x.getD 5 0, x.getD 6 0⟩
theorem encP_toPc : ∀ {x : List Int}, x.length = 7 → encP (toPc x) = x.map (fun n => si n)
  | [a, b, c, d, e, f, g], _ => rfl
theorem pieces_arg {W : World} {A2 : Option Addr} {len cap : Nat} {xs : List (List Int)} (hl : xs.length = len) (hc : len ≤ cap) (hA : A2 = none → cap = 0) (hr : Recs 7 W A2 xs) :
    ∃ (k : Nat → Option (Array Value)) (xl : SV), ConOk k W ∧ LstE encP 7 xl (xs.map toPc) ∧ (∀ q ∈ xs.map toPc, Pin q) ∧ ∀ A, cS A (kPhi k) xl (.slice A2 len cap) := by
  subst hl
  have pin : ∀ q ∈ xs.map toPc, Pin q := fun q hq => by
    obtain ⟨x, hx, rfl⟩ := List.mem_map.1 hq
    have hlen := hr.len x hx
    have hw := hr.wf x hx
    match x, hlen with
    | [a, b, c, d, e, f, g], _ =>
      have r : ∀ n ∈ [a, b, c, d, e, f, g], -9223372036854775808 ≤ n ∧ n ≤ 9223372036854775807 := fun n hn => in64_of_wf (hw n hn)
      exact ⟨r a (by simp), r b (by simp), r c (by simp), r d (by simp), r e (by simp), r f (by simp), r g (by simp)⟩
  cases A2 with
  | none =>
    have h1 := hA rfl
    have h2 : xs = [] := List.eq_nil_of_length_eq_zero (by omega)
    subst h2 h1
    exact ⟨fun _ => none, .nilSlice, conOk_none W, LstE.enc (l := []) (fun _ => rfl), pin, fun A => rfl⟩
  | some ad =>
    rcases hr.at_ with rfl | ⟨b, off, e, hcell⟩
    · exact ⟨fun _ => none, .lst [], conOk_none W, LstE.emp, pin, fun A => .lst0 ad cap⟩
    · cases e
      cases xs with
      | nil => exact ⟨fun _ => none, .lst [], conOk_none W, LstE.emp, pin, fun A => .lst0 _ cap⟩
      | cons x0 xs =>
        have hx0 := hr.len x0 (by simp)
        obtain ⟨n0, hn0⟩ : ∃ n, x0[0]? = some n := ⟨_, List.getElem?_eq_getElem (by omega)⟩
        have hc0 := hcell 0 x0 0 n0 rfl hn0
        obtain ⟨cs, ty, fr, hb, _⟩ := cell_block hc0
        have hget : ∀ (i : Nat) (x : List Int) (j : Nat) (n : Int), (x0 :: xs)[i]? = some x → x[j]? = some n → cs[off + i * 7 + j]? = some (.int .i64 n) := fun i x j n h1 h2 => by
          obtain ⟨cs', ty', fr', hb', h3⟩ := cell_block (hcell i x j n h1 h2)
          rw [hb] at hb'
          cases hb'
          exact h3
        have row : ∀ (i : Nat) (r : List SV), (((x0 :: xs).map toPc).map encP)[i]? = some r → ∃ x, (x0 :: xs)[i]? = some x ∧ r = x.map (fun n => si n) := fun i r h => by
          rw [List.getElem?_map, List.getElem?_map] at h
          obtain ⟨q, hq, rfl⟩ := Option.map_eq_some_iff.1 h
          obtain ⟨x, hx, rfl⟩ := Option.map_eq_some_iff.1 hq
          exact ⟨x, hx, encP_toPc (hr.len x (List.mem_of_getElem? hx))⟩
        have one : ∀ (i j : Nat) (r : List SV) (y : SV), (((x0 :: xs).map toPc).map encP)[i]? = some r → r[j]? = some y → ∃ n, y = si n ∧ cs[off + i * 7 + j]? = some (.int .i64 n) := fun i j r y h1 h2 => by
          obtain ⟨x, hx, rfl⟩ := row i r h1
          rw [List.getElem?_map] at h2
          obtain ⟨n, hn, rfl⟩ := Option.map_eq_some_iff.1 h2
          exact ⟨n, rfl, hget i x j n hx hn⟩
        refine ⟨fun n => if n = b then some cs else none, encL encP ((x0 :: xs).map toPc), fun b' cs' e => ?_, LstE.enc (fun _ => rfl), pin, fun A => ?_⟩
        · simp only at e
          split at e
          · rename_i h1; subst h1; cases e; exact ⟨(ty, fr), hb⟩
          · cases e
        · have hrl : (((x0 :: xs).map toPc).map encP).length = (x0 :: xs).length := by simp
          rw [← hrl]
          refine cD.lst _ b off cap 7 cs (fun i j => (cs[off + i * 7 + j]?).getD (.bool false)) ?_ (by have := hc; simp at this ⊢; exact this) (fun i r h => ?_) (fun i j r y h1 h2 => ?_) (fun i j r y h1 h2 => ?_)
          · exact if_pos rfl
          · obtain ⟨x, hx, rfl⟩ := row i r h
            rw [List.length_map]; exact hr.len x (List.mem_of_getElem? hx)
          · obtain ⟨n, rfl, h3⟩ := one i j r y h1 h2
            rw [h3]; rfl
          · obtain ⟨n, rfl, h3⟩ := one i j r y h1 h2
            simp only [h3, Option.getD_some]
            exact .int _ _
end Go.Proofs.Ytaljcpoopmedmaa.Ev

/- The statement 'StartsRise': its walk. Conditions: ints of 64 bits. -/
namespace Go.Proofs.Ytaljcpoopmedmaa.startsRise
open Go Go.RowKit Go.Proofs.Ytaljcpoopmedmaa.Ev Go.Proofs.Ytaljcpoopmedmaa.Ms
set_option linter.unusedVariables false
theorem startsRise_walk (W : World) (a0 : Int) (i0 : In64 a0) (a1 : Int) (i1 : In64 a1) (A2 : Option Addr) (len2 cap2 : Nat) (xs2 : List (List Int)) (hl2 : xs2.length = len2) (hc2 : len2 ≤ cap2) (hA2 : A2 = none → cap2 = 0) (hr2 : Recs 7 W A2 xs2) :
    Calls Try.prog 3 #[.int .i64 a0, .int .i64 a1, .slice A2 len2 cap2] W fun e w' => e = .returned (.bool true) ∧ Below W.heap.size W w' := by
  obtain ⟨k, xl, hk, lx, pin, hcs⟩ := pieces_arg hl2 hc2 hA2 hr2
  exact pure_true (env3 (A := fun _ => 0)) (d := ()) (rise_run Ok_h0 i0 i1 pin lx) hk _ (.cons rfl (.cons rfl (.cons (hcs _) .nil)))
end Go.Proofs.Ytaljcpoopmedmaa.startsRise

/- Machines; where blocks begin. -/
import Derived.Test.YtaljcpoopmedmaaMc8
namespace Go.Proofs.Ytaljcpoopmedmaa.Ev
open Go Go.RowKit Go.Proofs.Ytaljcpoopmedmaa.Ms
attribute [local go_sem] LD_head_callk zkH_some contH_hide W_skip W_ret W_exit W_seq W_block LW_cond zcO_bool W_region W_draw WO_nil LO_pure zpO_some LO_call zkO_some contO_eq LO_guard zgO_bool zgO_undef zmO_some WD_nil LD_pure zpD_some zmD_some LD_call zkD_some contD_eq LD_guard zgD_bool zgD_undef LD_head_pure zhpD_some LD_head_load zhlD_some LD_head_bslice zhaD_some zhbD_some thenQ_normal thenQ_exit thenQ_ret blkQ_normal blkQ_exit blkQ_ret loopQ_normal loopQ_exit loopQ_ret LO_new LO_box LO_bslice LO_mkslice LO_load LO_store LO_app LO_copy LO_clear LO_mkmap LO_look LO_mupd LO_slicea LO_boxc LD_new LD_box LD_bslice LD_mkslice LD_load LD_store LD_app LD_copy LD_clear LD_mkmap LD_look LD_mupd LD_slicea LD_boxc ev_l ev_g ev_c evs_nil evs_cons lget_zero lget_succ lset_zero lset_succ putD_none putD_some undefs_zero undefs_succ ob_s ob_n oif_ite svc_s svc_undef vInt_int vBool_bool sInt_int sBool_bool cel_s cel_agg mkAV_f mkAV_t celA_s celA_agg ltake_zero ltake_succ ldrop_zero ldrop_succ ldrop_nil llen_nil llen_cons lover_nil lover_cons loverAt_zero loverAt_succ nbeq_refl nbeq_eq nble_eq Lp_mm mmV_min mmV_max pop_mv Lp_pick pickO_bool pop_build fill_nil fill_cons Lp_bin binV_some pop_not pop_neg Lp_fld fldV_ptr fldV_cp pop_fval Lp_ext extO_tup mk1_some Lp_nchk nchkV_ptr nchkV_cp pop_conv pop_mkfun ptrs_nil ptrs_cons capAVs_nil capAVs_cons sPtrC_ptr sPtrC_cp sPtr_ptr Lp_len lenO_some lenV_nil lenV_lst lenV_slice numS_64 bin_add bin_sub bin_mul bin_quo_pos bin_rem_pos bin_shr_pos bin_eq bin_ne bin_lt bin_le bin_gt bin_ge Lp_ixs ixsO_some Lp_ixa ixaO_some Lr_one re1_f re1_t Lr_tmp reT_s reT_agg Lr_cell reP_some reC_ptr outP_some Lret_normal Lret_ret resAll_nil resAll_cons result_nil Lr_two re2_some ok_eq rdB_arr wrB_arr La_load loadO_ptr loadO_cp ldR_t ldR_f La_store stR_some La_mkslice mksO_some La_app appO_some bsO_some boxO_s boxO_agg fpV_ptr fpV_cp sel_nil sel_cons inHid_nil' inHid_cons' LV_ptr LV_cp mkL_t mkL_f Int.cast_ofNat_Int Int.natCast_zero Int.natCast_one decide_eq_true_eq decide_eq_false_iff_not Bool.false_eq_true and_true true_and List.cons_append List.nil_append reduceCtorEq decide_true decide_false Bool.not_true Bool.not_false Nat.add_zero Nat.zero_add Option.some.injEq Bool.true_eq_false not_true_eq_false not_false_eq_true Hp.next_push Hp.next_put Nat.add_assoc self_add add_self ixsV_slice1 ixaV_ptr ixaV_cp ixaV_ptr0 ixaV_ptr1 ixaV_cp0 ixaV_cp1 hid_ok get_hide La_bslice La_box aop_new storeO_s storeO_agg get_push get_put mksV_two ixsV_slice0 ixsV_slice Int.reduceToNat Nat.reduceAdd Nat.reduceMul Nat.reduceEqDiff Int.reduceEq Int.reduceLT Int.reduceLE Int.reduceNeg Int.reduceAdd Int.reduceSub Int.reduceMul Int.reduceNe
set_option linter.unusedVariables false
set_option linter.unusedSimpArgs false
set_option linter.unusedSectionVars false
set_option maxRecDepth 100000
set_option maxHeartbeats 2000000
def machS (a b : Int) : Nat × Nat := (2 + pk a 9, 2 + pk b 9)
def encM (m : Nat × Nat) : List SV := [si m.1, si m.2]
def In6 (a : Int) : Prop := -9223372036854775808 ≤ a ∧ a ≤ 9223372036854775807
theorem mach_ok (a b : Int) : (2 ≤ (machS a b).1 ∧ (machS a b).1 ≤ 10) ∧ (2 ≤ (machS a b).2 ∧ (machS a b).2 ≤ 10) := by
  have h1 := pk_lt (n := a) (m := 9) (by omega)
  have h2 := pk_lt (n := b) (m := 9) (by omega)
  unfold machS; simp only; omega
theorem machine_run {h : Hp} (ok : Ok h) {a b : Int} (ha : In6 a) (hb : In6 b) : WC F2 17 [vi a, vi b] h (fun v h' => ∃ d, frzA true h' d v = some (.agg (encM (machS a b)))) := by
  refine WC_run (no2 rfl rfl) T_machine rfl ?_
  unfold bd_machine
  have hpos := ok.pos
  obtain ⟨a1, a2⟩ := ha
  obtain ⟨b1, b2⟩ := hb
  have h1 := pk_lt (n := a) (m := 9) (by omega)
  have h2 := pk_lt (n := b) (m := 9) (by omega)
  have e1 : 2 + ((pk a 9 : Nat) : Int) = ((2 + pk a 9 : Nat) : Int) := by omega
  have e2 : 2 + ((pk b 9 : Nat) : Int) = ((2 + pk b 9 : Nat) : Int) := by omega
  simp (maxSteps := 1000000) (disch := first | omega | assumption | (simp only [List.length_cons, List.length_nil, Nat.reduceAdd]; done) | (simp only [inHid_nil']; done) | ((repeat (first | apply Ok_push | apply Ok_put)); assumption)) only [go_sem, ↓reduceIte, pkl_2, pkl_3, pkl_4, pkl_6, pkl_9, pkl_256, pkl_1073741824, pkl_1099511627776, WC_picked base2, w64_ok, e1, e2]
  exact ⟨1, rfl⟩
/-! ### lists of numbers in the heap, one more each time -/
theorem appI {h : Hp} (ok : Ok h) {b n : Nat} {ex : Bool} {cells : List SV} {c : SV} {ty : Nat} (hb : 1 ≤ b ∧ b < h.next) (hg : h.get b = some (.arr cells ty)) (hn : cells.length = n) (hs : n ≤ 100000000) (hn1 : 1 ≤ n) :
    ∃ h2, appV (h.push (.arr [c] ty)) ty 1 8 (.s (.slice b 0 n n ex 1)) (.s (.slice h.next 0 1 1 true 1)) = some (.s (.slice (h.next + 1) 0 (n + 1) (n + 1) false 1), h2) ∧ Ok h2 ∧ h2.next = h.next + 2 ∧ h2.get (h.next + 1) = some (.arr (cells ++ [c]) ty) ∧ ∀ k, k < h.next → k ≠ b → h2.get k = h.get k := by
  subst hn
  have ok1 : Ok (h.push (AB.arr [c] ty)) := Ok_push ok
  have g1 : (h.push (AB.arr [c] ty)).get b = some (.arr cells ty) := by rw [get_push ok, if_neg (by omega)]; exact hg
  have hrd : rdB ((h.push (AB.arr [c] ty)).get h.next) 0 (1 * 1) = some [c] := by rw [get_push ok, if_pos rfl]; rfl
  cases ex with
  | false =>
    refine ⟨((h.push (AB.arr [c] ty)).put b none).push (.arr (cells ++ [c]) ty), ?_, Ok_push (Ok_put ok1), by rw [Hp.next_push, Hp.next_put, Hp.next_push], ?_, fun k h1 h2 => ?_⟩
    · rw [appV_slice_slice (by omega), hrd, g1]
      exact appB_ok ok1 (by omega) (by omega) (by omega)
    · rw [get_push (Ok_put ok1), if_pos (by rw [Hp.next_put, Hp.next_push])]
    · rw [get_push (Ok_put ok1), if_neg (by rw [Hp.next_put, Hp.next_push]; omega), get_put ok1 hb.1, if_neg h2, get_push ok, if_neg (by omega)]
  | true =>
    refine ⟨(h.push (AB.arr [c] ty)).push (.arr (cells ++ [c]) ty), ?_, Ok_push ok1, by rw [Hp.next_push, Hp.next_push], ?_, fun k h1 h2 => ?_⟩
    · show ob (rdB ((h.push (AB.arr [c] ty)).get h.next) 0 (1 * 1)) (fun new => oif (Nat.beq 1 1) (oif (Nat.ble (Nat.add cells.length 1) cells.length) _ (small 8 (Nat.add cells.length 1) (appMove (h.push (AB.arr [c] ty)) ty 1 b 0 cells.length 1 true new))) none) = _
      rw [hrd]
      have e1 : Nat.ble (Nat.add cells.length 1) cells.length = false := by
        cases e : Nat.ble (Nat.add cells.length 1) cells.length with
        | false => rfl
        | true => rw [nble] at e; have : cells.length + 1 ≤ cells.length := e; omega
      show oif (Nat.ble (Nat.add cells.length 1) cells.length) _ (small 8 (cells.length + 1) (appMove (h.push (AB.arr [c] ty)) ty 1 b 0 cells.length 1 true [c])) = _
      rw [e1]
      show small 8 (cells.length + 1) (appMove (h.push (AB.arr [c] ty)) ty 1 b 0 cells.length 1 true [c]) = _
      rw [small_ok (by omega) (by omega)]
      show ob ((h.push (AB.arr [c] ty)).get b) _ = _
      rw [g1]
      show ob (ltake (Nat.mul cells.length 1) cells) _ = _
      rw [(ltake_some (n := Nat.mul cells.length 1) (l := cells) (r := cells) ).2 ⟨by show cells.length * 1 ≤ _; omega, by show cells = cells.take (cells.length * 1); rw [Nat.mul_one, List.take_length]⟩]
      show nw (h.push (AB.arr [c] ty)) (lapp cells [c]) ty (fun k h => some (AV.s (SV.slice k 0 (cells.length + 1) (cells.length + 1) false 1), h)) = _
      rw [nw_ok ok1, lapp_eq]
      rfl
    · rw [get_push ok1, if_pos (by rw [Hp.next_push])]
    · rw [get_push ok1, if_neg (by rw [Hp.next_push]; omega), get_push ok, if_neg (by omega)]
end Go.Proofs.Ytaljcpoopmedmaa.Ev

/- Where blocks begin: what is computed. -/
namespace Go.Proofs.Ytaljcpoopmedmaa.Ev
open Go Go.RowKit Go.Proofs.Ytaljcpoopmedmaa.Ms
attribute [local go_sem] LD_head_callk zkH_some contH_hide W_skip W_ret W_exit W_seq W_block LW_cond zcO_bool W_region W_draw WO_nil LO_pure zpO_some LO_call zkO_some contO_eq LO_guard zgO_bool zgO_undef zmO_some WD_nil LD_pure zpD_some zmD_some LD_call zkD_some contD_eq LD_guard zgD_bool zgD_undef LD_head_pure zhpD_some LD_head_load zhlD_some LD_head_bslice zhaD_some zhbD_some thenQ_normal thenQ_exit thenQ_ret blkQ_normal blkQ_exit blkQ_ret loopQ_normal loopQ_exit loopQ_ret LO_new LO_box LO_bslice LO_mkslice LO_load LO_store LO_app LO_copy LO_clear LO_mkmap LO_look LO_mupd LO_slicea LO_boxc LD_new LD_box LD_bslice LD_mkslice LD_load LD_store LD_app LD_copy LD_clear LD_mkmap LD_look LD_mupd LD_slicea LD_boxc ev_l ev_g ev_c evs_nil evs_cons lget_zero lget_succ lset_zero lset_succ putD_none putD_some undefs_zero undefs_succ ob_s ob_n oif_ite svc_s svc_undef vInt_int vBool_bool sInt_int sBool_bool cel_s cel_agg mkAV_f mkAV_t celA_s celA_agg ltake_zero ltake_succ ldrop_zero ldrop_succ ldrop_nil llen_nil llen_cons lover_nil lover_cons loverAt_zero loverAt_succ nbeq_refl nbeq_eq nble_eq Lp_mm mmV_min mmV_max pop_mv Lp_pick pickO_bool pop_build fill_nil fill_cons Lp_bin binV_some pop_not pop_neg Lp_fld fldV_ptr fldV_cp pop_fval Lp_ext extO_tup mk1_some Lp_nchk nchkV_ptr nchkV_cp pop_conv pop_mkfun ptrs_nil ptrs_cons capAVs_nil capAVs_cons sPtrC_ptr sPtrC_cp sPtr_ptr Lp_len lenO_some lenV_nil lenV_lst lenV_slice numS_64 bin_add bin_sub bin_mul bin_quo_pos bin_rem_pos bin_shr_pos bin_eq bin_ne bin_lt bin_le bin_gt bin_ge Lp_ixs ixsO_some Lp_ixa ixaO_some Lr_one re1_f re1_t Lr_tmp reT_s reT_agg Lr_cell reP_some reC_ptr outP_some Lret_normal Lret_ret resAll_nil resAll_cons result_nil Lr_two re2_some ok_eq rdB_arr wrB_arr La_load loadO_ptr loadO_cp ldR_t ldR_f La_store stR_some La_mkslice mksO_some La_app appO_some bsO_some boxO_s boxO_agg fpV_ptr fpV_cp sel_nil sel_cons inHid_nil' inHid_cons' LV_ptr LV_cp mkL_t mkL_f Int.cast_ofNat_Int Int.natCast_zero Int.natCast_one decide_eq_true_eq decide_eq_false_iff_not Bool.false_eq_true and_true true_and List.cons_append List.nil_append reduceCtorEq decide_true decide_false Bool.not_true Bool.not_false Nat.add_zero Nat.zero_add Option.some.injEq Bool.true_eq_false not_true_eq_false not_false_eq_true Hp.next_push Hp.next_put Nat.add_assoc self_add add_self ixsV_slice1 ixaV_ptr ixaV_cp ixaV_ptr0 ixaV_ptr1 ixaV_cp0 ixaV_cp1 hid_ok get_hide La_bslice La_box aop_new storeO_s storeO_agg get_push get_put mksV_two ixsV_slice0 ixsV_slice Int.reduceToNat Nat.reduceAdd Nat.reduceMul Nat.reduceEqDiff Int.reduceEq Int.reduceLT Int.reduceLE Int.reduceNeg Int.reduceAdd Int.reduceSub Int.reduceMul Int.reduceNe
set_option linter.unusedVariables false
set_option linter.unusedSimpArgs false
set_option linter.unusedSectionVars false
set_option maxRecDepth 100000
set_option maxHeartbeats 2000000
/-! ### in plain terms -/
def stF (s : List Nat) (x : Blk) : List Nat := s ++ [s.getLastD 0 + 2 + 2 * x.instrs.length]
def startsS (l : List Blk) : List Nat := l.foldl stF [0]
theorem starts_snoc (l : List Blk) (x : Blk) : startsS (l ++ [x]) = startsS l ++ [(startsS l).getLastD 0 + 2 + 2 * x.instrs.length] := by
  unfold startsS; rw [List.foldl_append]; rfl
theorem stF_len : ∀ (l : List Blk) (s : List Nat), (l.foldl stF s).length = s.length + l.length
  | [], s => rfl
  | x :: l, s => by
    rw [List.foldl_cons, stF_len l (stF s x)]
    simp [stF]; omega
theorem starts_len (l : List Blk) : (startsS l).length = l.length + 1 := by
  unfold startsS; rw [stF_len]; simp; omega
theorem stF_pre : ∀ (l : List Blk) (s : List Nat), ∃ t, l.foldl stF s = s ++ t
  | [], s => ⟨[], by simp⟩
  | x :: l, s => by
    obtain ⟨t, h⟩ := stF_pre l (stF s x)
    exact ⟨[s.getLastD 0 + 2 + 2 * x.instrs.length] ++ t, by rw [List.foldl_cons, h]; simp [stF]⟩
theorem starts_app (l r : List Blk) : ∃ t, startsS (l ++ r) = startsS l ++ t := by
  unfold startsS; rw [List.foldl_append]; exact stF_pre r _
theorem getLastD_get {s : List Nat} (h : s ≠ []) : s[s.length - 1]? = some (s.getLastD 0) := by
  rw [← List.getLast?_eq_getElem?, List.getLastD_eq_getLast?]
  cases e : s.getLast? with
  | none => rw [List.getLast?_eq_none_iff] at e; exact absurd e h
  | some a => rfl
theorem starts_ne (l : List Blk) : startsS l ≠ [] := by
  intro e; have := starts_len l; rw [e] at this; simp at this
theorem starts_zero (l : List Blk) : (startsS l)[0]? = some 0 := by
  obtain ⟨t, h⟩ := starts_app [] l
  rw [List.nil_append] at h
  rw [h]; rfl
theorem starts_last (l : List Blk) : (startsS l)[l.length]? = some ((startsS l).getLastD 0) := by
  have := getLastD_get (starts_ne l)
  rwa [starts_len] at this
/-- a block's beginning, the next one's -/
theorem starts_next {l : List Blk} {k : Nat} {x : Blk} (h : l[k]? = some x) : ∃ n, (startsS l)[k]? = some n ∧ (startsS l)[k + 1]? = some (n + 2 + 2 * x.instrs.length) := by
  have hk : k < l.length := by
    rcases Nat.lt_or_ge k l.length with h1 | h1
    · exact h1
    · rw [List.getElem?_eq_none h1] at h; cases h
  have e : l = l.take k ++ ([x] ++ l.drop (k + 1)) := by
    rw [List.getElem?_eq_getElem hk] at h
    obtain rfl := Option.some.inj h
    simp
  have hl : (l.take k).length = k := by rw [List.length_take]; omega
  obtain ⟨t, ht⟩ := starts_app (l.take k ++ [x]) (l.drop (k + 1))
  rw [List.append_assoc, ← e] at ht
  rw [starts_snoc] at ht
  have hs := starts_len (l.take k)
  rw [hl] at hs
  have hlast := starts_last (l.take k)
  rw [hl] at hlast
  refine ⟨(startsS (l.take k)).getLastD 0, ?_, ?_⟩
  · rw [ht, List.getElem?_append_left (by simp; omega), List.getElem?_append_left (by omega)]
    exact hlast
  · rw [ht, List.getElem?_append_left (by simp; omega), List.getElem?_append_right (by omega), hs]
    simp
theorem starts_le : ∀ (l : List Blk), (∀ b ∈ l, b.instrs.length ≤ 10000) → ∀ (s : List Nat) (N : Nat), (∀ n ∈ s, n ≤ N) → ∀ n ∈ l.foldl stF s, n ≤ N + 20002 * l.length
  | [], _, s, N, h, n, hn => h n hn
  | x :: l, hb, s, N, h, n, hn => by
    rw [List.foldl_cons] at hn
    have hx := hb x (by simp)
    have := starts_le l (fun b hm => hb b (by simp [hm])) (stF s x) (N + 20002) (fun m hm => by
      rcases List.mem_append.1 hm with h1 | h1
      · have := h m h1; omega
      · obtain rfl := List.mem_singleton.1 h1
        have : s.getLastD 0 ≤ N := by
          rw [List.getLastD_eq_getLast?]
          cases e : s.getLast? with
          | none => simp
          | some a => exact h a (List.mem_of_getLast? e)
        omega) n hn
    simp only [List.length_cons]; omega
theorem starts_bound {l : List Blk} (h : ∀ b ∈ l, b.instrs.length ≤ 10000) (hl : l.length ≤ 10000) : ∀ n ∈ startsS l, n ≤ 200020000 := fun n hn => by
  have := starts_le l h [0] 0 (by simp) n hn
  omega
theorem rdB_at {cells : List SV} {ty i : Nat} {c : SV} (h : cells[i]? = some c) : rdB (some (.arr cells ty)) i 1 = some [c] := by
  have hi : i < cells.length := by
    rcases Nat.lt_or_ge i cells.length with h1 | h1
    · exact h1
    · rw [List.getElem?_eq_none h1] at h; cases h
  rw [List.getElem?_eq_getElem hi] at h
  rw [rdB_arr, ldrop_eq, List.drop_eq_getElem_cons hi, Option.some.inj h]
  rfl
theorem Sl_of {h : Hp} {b ty : Nat} {ex : Bool} {l : List Nat} (hl : l ≠ []) (hg : h.get b = some (.arr (l.map (fun (n : Nat) => si (n : Int))) ty)) : Sl h ty 1 ex EI (.slice b 0 l.length l.length ex 1) l [b] :=
  .inr ⟨hl, b, l.map (fun (n : Nat) => [si (n : Int)]), [], rfl, by rw [flatI]; exact hg, rowsI l, rfl⟩
/-! ### the walk -/
theorem starts_loop {F : Fns} {bx : Nat} {l : List Blk} (hlen : l.length ≤ 10000) (hin : ∀ b ∈ l, b.instrs.length ≤ 10000) {x0 x1 : AV} {Q : Ex → St → Prop} :
    ∀ (rest done : List Blk) (_ : done ++ rest = l) {hi : Hp} (_ : Ok hi) {b : Nat} {ex : Bool} (_ : 1 ≤ b ∧ b < hi.next) (_ : hi.get b = some (.arr ((startsS done).map (fun (n : Nat) => si n)) 3)) {x2 x5 : AV}
      (hQ : ∀ hj b ex x2 x5, hj.get b = some (.arr ((startsS l).map (fun (n : Nat) => si n)) 3) → Q (.exit 0) (.mk [x0, x1, x2, .s (.slice b 0 (l.length + 1) (l.length + 1) ex 1), .s (encL encB l), x5, vi l.length, vi l.length, .s (.ptr bx 0)] hj)),
      W F lp1_starts.loop (.mk [x0, x1, x2, .s (.slice b 0 (done.length + 1) (done.length + 1) ex 1), .s (encL encB l), x5, vi l.length, vi done.length, .s (.ptr bx 0)] hi) Q
  | [], done, hdn, hi, ok, b, ex, hb, hg, x2, x5, hQ => by
    rw [List.append_nil] at hdn
    subst hdn
    rw [W_loop]
    unfold lp1_starts
    simp (maxSteps := 1000000) (disch := first | omega | assumption | (simp only [List.length_cons, List.length_nil, Nat.reduceAdd]; done) | (simp only [inHid_nil']; done) | ((repeat (first | apply Ok_push | apply Ok_put)); assumption)) only [go_sem, ↓reduceIte, Int.lt_irrefl]
    exact hQ hi b ex _ _ hg
  | x :: rest, done, hdn, hi, ok, b, ex, hb, hg, x2, x5, hQ => by
    have hlt1 : done.length < l.length := by rw [← hdn]; simp
    have hlt : (done.length : Int) < l.length := by omega
    have hget : l[done.length]? = some x := by rw [← hdn]; simp
    have hx := hin x (List.mem_of_getElem? hget)
    have hix := ixsV_encL (enc := encB) (size := 3) hget rfl
    have hdn' : (done ++ [x]) ++ rest = l := by rw [← hdn]; simp
    have hlen2 : (done ++ [x]).length = done.length + 1 := by simp
    have hsucc : ((done.length : Int) + 1) = (((done ++ [x]).length : Nat) : Int) := by rw [hlen2]; omega
    have hpos := ok.pos
    have li := lenV_encL (enc := encX) (l := x.instrs)
    obtain ⟨n, hn⟩ : ∃ n, (startsS done).getLastD 0 = n := ⟨_, rfl⟩
    have hlast := starts_last done
    rw [hn] at hlast
    have hnb := starts_bound (l := done) (fun b hm => hin b (by rw [← hdn]; simp [hm])) (by omega) n (List.mem_of_getElem? hlast)
    obtain ⟨hA, eA⟩ : ∃ hA, (hi.push (AB.arr [.nilSlice, .nilSlice, .nilSlice] 36)).put hi.next (some (.arr (encB x) 36)) = hA := ⟨_, rfl⟩
    have okA : Ok hA := by rw [← eA]; exact Ok_put (Ok_push ok)
    have nA : hA.next = hi.next + 1 := by rw [← eA, Hp.next_put, Hp.next_push]
    have xA : hA.get hi.next = some (.arr (encB x) 36) := by rw [← eA, get_put (Ok_push ok) hpos, if_pos rfl]
    have gA : ∀ k, k < hi.next → hA.get k = hi.get k := fun k hk => by
      rw [← eA, get_put (Ok_push ok) hpos, get_push ok, if_neg (by omega), if_neg (by omega)]
    have bA := (gA b hb.2).trans hg
    have hsl : ((startsS done).map (fun (n : Nat) => si (n : Int))).length = done.length + 1 := by rw [List.length_map, starts_len]
    have hrd : rdB (hA.get b) done.length 1 = some [si (n : Nat)] := by
      rw [bA]
      exact rdB_at (by rw [List.getElem?_map, hlast]; rfl)
    have hxi := ixsV_slice (size := 1) (b := b) (off := 0) (len := done.length + 1) (mc := done.length + 1) (sz := 1) (ex := ex) (m := done.length) (by omega)
    rw [Nat.zero_add, Nat.mul_one] at hxi
    have hs1 : ((done.length + 1 : Nat) : Int) - 1 = (done.length : Int) := by omega
    obtain ⟨q, hq⟩ : ∃ q, n + 2 + 2 * x.instrs.length = q := ⟨_, rfl⟩
    obtain ⟨h2, e2, ok2, n2, g2, k2⟩ := appI (c := si (q : Nat)) okA (by omega) bA hsl (by omega) (by omega) (ex := ex)
    rw [nA, show done.length + 1 + 1 = (done ++ [x]).length + 1 by rw [hlen2]] at e2
    rw [nA] at g2 n2
    have hsum : (n : Int) + 2 + 2 * (x.instrs.length : Int) = (q : Int) := by omega
    unfold encB at xA eA
    rw [W_loop]
    unfold lp1_starts

    simp (maxSteps := 1000000) (disch := first | omega | assumption | (simp only [List.length_cons, List.length_nil, Nat.reduceAdd]; done) | (simp only [inHid_nil']; done) | ((repeat (first | apply Ok_push | apply Ok_put)); assumption)) only [go_sem, ↓reduceIte, eq_true hlt, hix, encB, eA, xA, hs1, hxi, hrd, li, w64_ok, hsum, nA, e2, hsucc]
    have g2' : h2.get (hi.next + 1 + 1) = some (.arr ((startsS (done ++ [x])).map (fun (n : Nat) => si n)) 3) := by
      rw [starts_snoc, hn, hq, List.map_append]; exact g2
    exact starts_loop hlen hin rest (done ++ [x]) hdn' ok2 (by omega) g2' hQ
theorem starts_run {h : Hp} (ok : Ok h) {f : Fc} (hlen : f.blocks.length ≤ 10000) (hin : ∀ b ∈ f.blocks, b.instrs.length ≤ 10000) : WC F2 18 [.agg (encF f)] h (fun v h' => ∃ d, frzA true h' d v = some (.s (encL encI (startsS f.blocks)))) := by
  refine WC_run (no2 rfl rfl) T_starts rfl ?_
  unfold bd_starts
  have hpos := ok.pos
  obtain ⟨hA, eA⟩ : ∃ hA, h.push (AB.arr (encF f) 26) = hA := ⟨_, rfl⟩
  have okA : Ok hA := by rw [← eA]; exact Ok_push ok
  have nA : hA.next = h.next + 1 := by rw [← eA, Hp.next_push]
  have xA : hA.get h.next = some (.arr (encF f) 26) := by rw [← eA, get_push ok, if_pos rfl]
  obtain ⟨hB, eB⟩ : ∃ hB, hA.push (AB.arr [.int .i64 0] 3) = hB := ⟨_, rfl⟩
  have okB : Ok hB := by rw [← eB]; exact Ok_push okA
  have nB : hB.next = h.next + 2 := by rw [← eB, Hp.next_push, nA]
  have xB : hB.get h.next = some (.arr (encF f) 26) := by rw [← eB, get_push okA, if_neg (by omega)]; exact xA
  have yB : hB.get (h.next + 1) = some (.arr [.int .i64 0] 3) := by rw [← eB, get_push okA, if_pos nA.symm]
  have ll := lenV_encL (enc := encB) (l := f.blocks)
  unfold encF at xA xB eA
  simp (maxSteps := 1000000) (disch := first | omega | assumption | (simp only [List.length_cons, List.length_nil, Nat.reduceAdd]; done) | (simp only [inHid_nil']; done) | ((repeat (first | apply Ok_push | apply Ok_put)); assumption)) only [go_sem, ↓reduceIte, encF, eA, nA, eB, xB, ll]
  refine starts_loop hlen hin f.blocks [] rfl okB (by omega) yB (fun hj b ex x2 x5 hg => ?_)
  simp (maxSteps := 1000000) (disch := first | omega | assumption | (simp only [List.length_cons, List.length_nil, Nat.reduceAdd]; done) | (simp only [inHid_nil']; done) | ((repeat (first | apply Ok_push | apply Ok_put)); assumption)) only [go_sem, ↓reduceIte]
  have s1 := Sl_of (ex := ex) (starts_ne f.blocks) hg
  rw [starts_len] at s1
  exact ⟨2, ob_some.2 ⟨_, s1.frz (d := 1) (fun _ _ _ e => EI.frz e) (fun _ => rfl), rfl⟩⟩
end Go.Proofs.Ytaljcpoopmedmaa.Ev

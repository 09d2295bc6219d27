/- Open runs: what operations answer at values that are known in part. No program in sight. -/
import Derived.Test.YtaljcpoopmedmaaOp
namespace Go.Proofs.Ytaljcpoopmedmaa.Ev
open Go Go.RowKit
set_option linter.unusedVariables false
set_option linter.unusedSimpArgs false
/-! ### operands and frames -/
abbrev vi (n : Int) : AV := .s (.int .i64 n)
abbrev vb (b : Bool) : AV := .s (.bool b)
abbrev si (n : Int) : SV := .int .i64 n
section
variable {st fr : List AV} {h : Hp} {α β : Type}
theorem ev_l {i : Nat} : ev st fr (.l i) = lget st i := rfl
theorem ev_g {i : Nat} : ev st fr (.g i) = lget fr i := rfl
theorem ev_c {v : AV} : ev st fr (.c v) = some v := rfl
theorem evs_nil : evs st fr [] = some [] := rfl
theorem evs_cons {o : Od} {l : List Od} : evs st fr (o :: l) = ob (ev st fr o) (fun v => ob (evs st fr l) (fun r => some (v :: r))) := rfl
theorem lget_zero {a : α} {l : List α} : lget (a :: l) 0 = some a := rfl
theorem lget_succ {a : α} {l : List α} {n : Nat} : lget (a :: l) (n + 1) = lget l n := rfl
theorem lset_zero {a x : α} {l : List α} : lset (a :: l) 0 x = x :: l := rfl
theorem lset_succ {a x : α} {l : List α} {n : Nat} : lset (a :: l) (n + 1) x = a :: lset l n x := rfl
theorem putD_none {v : AV} : putD fr none v = fr := rfl
theorem putD_some {d : Nat} {v : AV} : putD fr (some d) v = lset fr d v := rfl
theorem undefs_zero : undefs 0 = [] := rfl
theorem undefs_succ {n : Nat} : undefs (n + 1) = .undef :: undefs n := rfl
theorem ob_s {a : α} {f : α → Option β} : ob (some a) f = f a := rfl
theorem ob_n {f : α → Option β} : ob none f = none := rfl
theorem oif_ite {b : Bool} {x y : α} : oif b x y = if b = true then x else y := by cases b <;> rfl
theorem svc_s {e : Option β} {x : SV} {f : SV → Option β} : svc e (.s x) f = f x := rfl
theorem svc_undef {e : Option β} {f : SV → Option β} : svc e .undef f = e := rfl
theorem vInt_int {k : IntKind} {n : Int} {f : IntKind → Int → Option β} : vInt (.int k n) f = f k n := rfl
theorem vBool_bool {b : Bool} {f : Bool → Option β} : vBool (.bool b) f = f b := rfl
theorem sInt_int {k : IntKind} {n : Int} {f : IntKind → Int → Option β} : sInt (.s (.int k n)) f = f k n := rfl
theorem sBool_bool {b : Bool} {f : Bool → Option β} : sBool (.s (.bool b)) f = f b := rfl
theorem cel_s {x : SV} {f : List SV → Option β} : cel (.s x) f = f [x] := rfl
theorem cel_agg {l : List SV} {f : List SV → Option β} : cel (.agg l) f = f l := rfl
theorem mkAV_f {a : SV} : mkAV false [a] = some (.s a) := rfl
theorem mkAV_t {l : List SV} : mkAV true l = some (.agg l) := rfl
theorem celA_s {x : SV} {f : List SV → Option β} : celA false (.s x) f = f [x] := rfl
theorem celA_agg {l : List SV} {f : List SV → Option β} : celA true (.agg l) f = f l := rfl
theorem ltake_zero {l : List α} : ltake 0 l = some [] := rfl
theorem ltake_succ {a : α} {l : List α} {n : Nat} : ltake (n + 1) (a :: l) = ob (ltake n l) (fun x => some (a :: x)) := rfl
theorem ldrop_zero {l : List α} : ldrop 0 l = l := rfl
theorem ldrop_succ {a : α} {l : List α} {n : Nat} : ldrop (n + 1) (a :: l) = ldrop n l := rfl
theorem ldrop_nil {n : Nat} : ldrop n ([] : List α) = [] := by cases n <;> rfl
theorem llen_nil : llen ([] : List α) = 0 := rfl
theorem llen_cons {a : α} {l : List α} : llen (a :: l) = llen l + 1 := rfl
theorem lover_nil {l : List α} : lover [] l = some l := rfl
theorem lover_cons {x a : α} {xs l : List α} : lover (x :: xs) (a :: l) = ob (lover xs l) (fun y => some (x :: y)) := rfl
theorem loverAt_zero {xs l : List α} : loverAt 0 xs l = lover xs l := rfl
theorem loverAt_succ {a : α} {xs l : List α} {n : Nat} : loverAt (n + 1) xs (a :: l) = ob (loverAt n xs l) (fun y => some (a :: y)) := rfl
theorem nbeq_refl {a : Nat} : Nat.beq a a = true := Nat.beq_refl a
theorem nbeq_eq {a b : Nat} : (Nat.beq a b = true) = (a = b) := nbeq a b
theorem nble_eq {a b : Nat} : (Nat.ble a b = true) = (a ≤ b) := nble a b
/-! ### operations on values -/
theorem pop_mv {x : Od} : pop st fr (.mv x) = ev st fr x := rfl
theorem pop_pick {c a b : Od} : pop st fr (.pick c a b) = ob (ev st fr c) (fun v => sBool v (fun t => ev st fr (oif t a b))) := rfl
theorem pop_build {z : List SV} {ps : List (Nat × Nat × Od)} : pop st fr (.build z ps) = ob (fill st fr ps z) (fun cs => some (.agg cs)) := rfl
theorem fill_nil {cs : List SV} : fill st fr [] cs = some cs := rfl
theorem fill_cons {off n : Nat} {o : Od} {ps : List (Nat × Nat × Od)} {cs : List SV} : fill st fr ((off, n, o) :: ps) cs = ob (ev st fr o) (fun v => cel v (fun xs => oif (Nat.beq (llen xs) n) (ob (loverAt off xs cs) (fill st fr ps)) none)) := rfl
theorem pop_bin {o : BO} {x y : Od} : pop st fr (.bin o x y) = ob (ev st fr x) (fun a => ob (ev st fr y) (fun b => svc none a (fun a => svc none b (fun b => binSV o a b)))) := rfl
theorem pop_not {x : Od} : pop st fr (.not x) = ob (ev st fr x) (fun v => sBool v (fun b => some (.s (.bool (!b))))) := by
  show ob (ev st fr x) (fun v => sBool v (fun b => some (AV.s (.bool (bnot b))))) = _
  congr 1; funext v; congr 1; funext b; cases b <;> rfl
theorem pop_neg {x : Od} : pop st fr (.neg x) = ob (ev st fr x) (fun v => sInt v (fun k n => numS k (-n))) := rfl
theorem pop_fld {off : Nat} {x : Od} : pop st fr (.fld off x) = ob (ev st fr x) (fun v => sPtrC v (fun b o => some (.s (.ptr b (o + off)))) (fun cs => some (.s (.cp (ldrop off cs))))) := rfl
theorem pop_fval {off n : Nat} {agg : Bool} {x : Od} : pop st fr (.fval off n agg x) = ob (ev st fr x) (fun v => AV.casesOn (motive := fun _ => Option AV) v (fun _ => none) (fun cs => ob (ltake n (ldrop off cs)) (fun cs => mkAV agg cs)) (fun _ => none) none none) := rfl
theorem pop_ext {i : Nat} {x : Od} : pop st fr (.ext i x) = ob (ev st fr x) (fun v => AV.casesOn (motive := fun _ => Option AV) v (fun _ => none) (fun _ => none) (fun l => ob (lget l i) (fun p => mkAV p.1 p.2)) none none) := rfl
theorem pop_nchk {x : Od} : pop st fr (.nchk x) = ob (ev st fr x) (fun v => sPtrC v (fun b o => some (.s (.ptr b o))) (fun cs => some (.s (.cp cs)))) := rfl
theorem pop_conv {k : IntKind} {x : Od} : pop st fr (.conv k x) = ob (ev st fr x) (fun v => sInt v (fun _ n => convS k n)) := rfl
theorem pop_mkfun {f : FuncId} {cs : List Od} : pop st fr (.mkfun f cs) = ob (evs st fr cs) (fun vs => ob (ptrs vs) (fun ps => some (.s (.func f ps)))) := rfl
theorem ptrs_nil : ptrs [] = some [] := rfl
theorem ptrs_cons {b o : Nat} {l : List AV} : ptrs (.s (.ptr b o) :: l) = ob (ptrs l) (fun r => some ((b, o) :: r)) := rfl
theorem capAVs_nil : capAVs [] = [] := rfl
theorem capAVs_cons {b o : Nat} {l : List (Nat × Nat)} : capAVs ((b, o) :: l) = .s (.ptr b o) :: capAVs l := rfl
theorem sPtrC_ptr {b o : Nat} {f : Nat → Nat → Option β} {g : List SV → Option β} : sPtrC (.s (.ptr b o)) f g = f b o := rfl
theorem sPtrC_cp {cs : List SV} {f : Nat → Nat → Option β} {g : List SV → Option β} : sPtrC (.s (.cp cs)) f g = g cs := rfl
theorem sPtr_ptr {b o : Nat} {f : Nat → Nat → Option β} : sPtr (.s (.ptr b o)) f = f b o := rfl
/-- lengths -/
noncomputable def lenV (v : AV) : Option AV := sSliceC v (some (.s (.int .i64 0))) (fun _ _ n _ _ _ => some (.s (.int .i64 (Int.ofNat n)))) (fun rows => some (.s (.int .i64 (Int.ofNat (llen rows))))) (some (.s (.int .i64 0)))
theorem pop_len {x : Od} : pop st fr (.len x) = ob (ev st fr x) lenV := rfl
theorem lenV_nil : lenV (.s .nilSlice) = some (vi 0) := rfl
theorem lenV_lst {rows : List (List SV)} : lenV (.s (.lst rows)) = some (vi rows.length) := by
  show some (AV.s (.int .i64 (Int.ofNat (llen rows)))) = _
  rw [llen_eq]; rfl
theorem lenV_slice {b o n mc sz : Nat} {e : Bool} : lenV (.s (.slice b o n mc e sz)) = some (vi n) := rfl
/-! ### numbers -/
def num64 (n : Int) : Option AV := if -9223372036854775808 ≤ n ∧ n ≤ 9223372036854775807 then some (vi n) else none
theorem inR64 {n : Int} (h1 : -9223372036854775808 ≤ n) (h2 : n ≤ 9223372036854775807) : inR .i64 n = true := by
  cases n with
  | ofNat m => exact (nble m 9223372036854775807).symm ▸ (by have : (m : Int) ≤ 9223372036854775807 := h2
                                                             omega)
  | negSucc m => exact (nble m 9223372036854775807).symm ▸ (by have : -9223372036854775808 ≤ Int.negSucc m := h1
                                                               omega)
theorem numS_64 {n : Int} : numS .i64 n = num64 n := by
  unfold num64
  show oif (inR .i64 n) (some (AV.s (.int .i64 n))) none = _
  split
  · rename_i h; rw [inR64 h.1 h.2]; rfl
  · rename_i h
    cases e : inR .i64 n with
    | false => rfl
    | true =>
      rcases inR_bounds e with ⟨_, a, b⟩ | ⟨e, _⟩ | ⟨e, _⟩
      · exact absurd ⟨a, b⟩ h
      · cases e
      · cases e
theorem num64_ok {n : Int} (h1 : -9223372036854775808 ≤ n) (h2 : n ≤ 9223372036854775807) : num64 n = some (vi n) := if_pos ⟨h1, h2⟩
/-- a number cut to 64 bits -/
def w64 (n : Int) : Int := IntKind.wrap .i64 n
theorem w64_ok {n : Int} (h1 : -9223372036854775808 ≤ n) (h2 : n ≤ 9223372036854775807) : w64 n = n := inR_wrap (inR64 h1 h2)
theorem w64_in (n : Int) : -9223372036854775808 ≤ w64 n ∧ w64 n ≤ 9223372036854775807 := by
  unfold w64 IntKind.wrap
  simp only [IntKind.bits, IntKind.signed]
  simp
  omega
theorem numW_64 {n : Int} : numW .i64 n = some (vi (w64 n)) := by
  show oif (inR .i64 n) (some (AV.s (.int .i64 n))) (some (AV.s (.int .i64 (IntKind.wrap .i64 n)))) = _
  cases e : inR .i64 n with
  | true => rw [show w64 n = n from inR_wrap e]; rfl
  | false => rfl
variable {a b : Int}
theorem bin_add : binSV .add (.int .i64 a) (.int .i64 b) = some (vi (w64 (a + b))) := by
  rw [← numW_64]; show numW .i64 (iadd a b) = _; rw [iadd_eq]
theorem bin_sub : binSV .sub (.int .i64 a) (.int .i64 b) = some (vi (w64 (a - b))) := by rw [← numW_64]; rfl
theorem bin_mul : binSV .mul (.int .i64 a) (.int .i64 b) = some (vi (w64 (a * b))) := by rw [← numW_64]; rfl
theorem bin_quo : binSV .quo (.int .i64 a) (.int .i64 b) = if b = 0 then none else num64 (a.tdiv b) := by
  rw [← numS_64]
  show oif (ieq b 0) none (numS .i64 (a.tdiv b)) = _
  rw [oif_if, ieq_iff]; simp only [decide_eq_true_eq]
theorem bin_rem : binSV .rem (.int .i64 a) (.int .i64 b) = if b = 0 then none else num64 (a.tmod b) := by
  rw [← numS_64]
  show oif (ieq b 0) none (numS .i64 (a.tmod b)) = _
  rw [oif_if, ieq_iff]; simp only [decide_eq_true_eq]
theorem bin_eq : binSV .eq (.int .i64 a) (.int .i64 b) = some (vb (decide (a = b))) := by
  show some (AV.s (.bool (ieq a b))) = _; rw [ieq_iff]
theorem bin_ne : binSV .ne (.int .i64 a) (.int .i64 b) = some (vb (decide (a ≠ b))) := by
  show some (AV.s (.bool (bnot (ieq a b)))) = _; rw [ieq_iff, bnot_eq]; congr 3; by_cases h : a = b <;> simp [h]
theorem bin_lt : binSV .lt (.int .i64 a) (.int .i64 b) = some (vb (decide (a < b))) := by
  show some (AV.s (.bool (bnot (ile b a)))) = _; rw [ile_iff, bnot_eq]; congr 3; by_cases h : a < b <;> simp [h]
  omega
theorem bin_le : binSV .le (.int .i64 a) (.int .i64 b) = some (vb (decide (a ≤ b))) := by
  show some (AV.s (.bool (ile a b))) = _; rw [ile_iff]
theorem bin_gt : binSV .gt (.int .i64 a) (.int .i64 b) = some (vb (decide (b < a))) := by
  show some (AV.s (.bool (bnot (ile a b)))) = _; rw [ile_iff, bnot_eq]; congr 3; by_cases h : b < a <;> simp [h]
  omega
theorem bin_ge : binSV .ge (.int .i64 a) (.int .i64 b) = some (vb (decide (b ≤ a))) := by
  show some (AV.s (.bool (ile b a))) = _; rw [ile_iff]
/-- a number shifted to the right, by a number of any kind -/
theorem bin_shr {n : Nat} {k : IntKind} (hn : n ≤ 63) : binSV .shr (.int .i64 a) (.int k (n : Int)) = some (vi (a / 2 ^ n)) := by
  have hs : shOk .i64 n = true := by
    have hI : isI64 .i64 = true := rfl
    unfold shOk
    simp [oif_if, nble, hn, hI]
  have e : binSV .shr (.int .i64 a) (.int k (n : Int)) = binop .shr .i64 a (n : Int) := by
    show oif (Nat.beq (ikn .i64) (ikn k)) (binop .shr .i64 a n) (oif true (binop .shr .i64 a n) none) = _
    cases Nat.beq (ikn .i64) (ikn k) <;> rfl
  rw [e]
  cases a with
  | ofNat m =>
    show oif (shOk .i64 n) (some (AV.s (.int .i64 (Int.ofNat (Nat.div m (Nat.pow 2 n)))))) none = _
    rw [hs]
    have : Int.ofNat (Nat.div m (Nat.pow 2 n)) = Int.ofNat m / 2 ^ n := by
      show ((m / 2 ^ n : Nat) : Int) = (m : Int) / 2 ^ n
      rw [Int.natCast_ediv, Int.natCast_pow]; rfl
    rw [this]; rfl
  | negSucc m =>
    show oif (shOk .i64 n) (some (AV.s (.int .i64 (Int.negSucc (Nat.div m (Nat.pow 2 n)))))) none = _
    rw [hs]
    have : Int.negSucc (Nat.div m (Nat.pow 2 n)) = Int.negSucc m / 2 ^ n := by
      obtain ⟨q, hq⟩ : ∃ q, 2 ^ n = q + 1 := ⟨2 ^ n - 1, by have := Nat.two_pow_pos n; omega⟩
      have h2 : (2 : Int) ^ n = ((q + 1 : Nat) : Int) := by rw [← hq, Int.natCast_pow]; rfl
      have h3 : Nat.pow 2 n = q + 1 := hq
      rw [h2, h3]; rfl
    rw [this]; rfl
theorem bin_and1 (h1 : -9223372036854775808 ≤ a) (h2 : a ≤ 9223372036854775807) : binSV .and (.int .i64 a) (.int .i64 1) = some (vi (a % 2)) := by
  have hr := inR64 h1 h2
  cases a with
  | ofNat m =>
    show oif (inR .i64 (.ofNat m)) (some (AV.s (.int .i64 (.ofNat (Nat.land m 1))))) none = _
    rw [hr]
    have : Int.ofNat (Nat.land m 1) = Int.ofNat m % 2 := by
      rw [show Nat.land m 1 = m % 2 from Nat.and_one_is_mod m]; rfl
    rw [this]; rfl
  | negSucc m =>
    show oif (inR .i64 (.negSucc m)) (some (AV.s (.int .i64 (.ofNat (Nat.xor 1 (Nat.land 1 m)))))) none = _
    rw [hr]
    have : Int.ofNat (Nat.xor 1 (Nat.land 1 m)) = Int.negSucc m % 2 := by
      have e : Nat.land 1 m = m % 2 := (Nat.and_comm 1 m).trans (Nat.and_one_is_mod m)
      rw [e]
      rcases Nat.mod_two_eq_zero_or_one m with h | h
      · rw [h]; show (1 : Int) = _; omega
      · rw [h]; show (0 : Int) = _; omega
    rw [this]; rfl
/-- made odd -/
theorem bin_or1 (h1 : -9223372036854775808 ≤ a) (h2 : a ≤ 9223372036854775807) : binSV .or (.int .i64 a) (.int .i64 1) = some (vi (a + (1 - a % 2))) := by
  have hr := inR64 h1 h2
  cases a with
  | ofNat m =>
    show oif (inR .i64 (.ofNat m)) (some (AV.s (.int .i64 (.ofNat (Nat.lor m 1))))) none = _
    rw [hr]
    have : Int.ofNat (Nat.lor m 1) = Int.ofNat m + (1 - Int.ofNat m % 2) := by
      have e : m ||| 1 = m + (1 - m % 2) := by
        have h1 : (m ||| 1) / 2 = m / 2 := by rw [Nat.or_div_two]; simp
        have h2 : (m ||| 1) % 2 = 1 := by rw [Nat.or_mod_two_eq_one]; simp
        omega
      show ((m ||| 1 : Nat) : Int) = (m : Int) + (1 - (m : Int) % 2)
      rw [e]; omega
    rw [this]; rfl
  | negSucc m =>
    show oif (inR .i64 (.negSucc m)) (some (AV.s (.int .i64 (.negSucc (Nat.xor m (Nat.land m 1)))))) none = _
    rw [hr]
    have : Int.negSucc (Nat.xor m (Nat.land m 1)) = Int.negSucc m + (1 - Int.negSucc m % 2) := by
      have e : m ^^^ (m &&& 1) = m - m % 2 := by
        have h1 : (m ^^^ (m &&& 1)) / 2 = m / 2 := by rw [Nat.xor_div_two, Nat.and_div_two]; simp
        have h2 : ¬ (m ^^^ (m &&& 1)) % 2 = 1 := by
          have e : m &&& 1 = m % 2 := Nat.and_one_is_mod m
          rw [e, Nat.xor_mod_two_eq_one]; omega
        omega
      show Int.negSucc (m ^^^ (m &&& 1)) = _
      rw [e]; omega
    rw [this]; rfl
end
end Go.Proofs.Ytaljcpoopmedmaa.Ev

/- Open runs: what operations on memory answer, heaps by what they hold. No program in sight. -/
namespace Go.Proofs.Ytaljcpoopmedmaa.Ev
open Go Go.RowKit
set_option linter.unusedVariables false
set_option linter.unusedSimpArgs false
/-! ### heaps -/
/-- a heap with nothing out of sight -/
structure Ok (h : Hp) : Prop where
  hid : h.hid = []
  lo : h.lo = 0
  pos : 1 ≤ h.next
theorem ble_true {a b : Nat} (h : a ≤ b) : Nat.ble a b = true := by rw [nble]; exact h
theorem Ok_h0 : Ok h0 := ⟨rfl, rfl, Nat.le_refl 1⟩
section
variable {h : Hp} {F : Fns} {st fr : List AV} {Q : Ex → St → Prop} {β : Type}
theorem Ok_push {x : AB} (k : Ok h) : Ok (h.push x) := ⟨k.hid, k.lo, Nat.le_succ_of_le k.pos⟩
theorem Ok_put {b : Nat} {x : Option AB} (k : Ok h) : Ok (h.put b x) := ⟨by rw [Hp.hid_put]; exact k.hid, by rw [Hp.lo_put]; exact k.lo, by rw [Hp.next_put]; exact k.pos⟩
theorem get_push {x : AB} {n : Nat} (k : Ok h) : (h.push x).get n = if n = h.next then some x else h.get n := by
  rw [Hp.get_eq, Hp.get_eq, Hp.hid_push, k.hid]
  have e : inHid [] n = false := rfl
  rw [e]
  show (h.tr.put (Nat.succ h.next) h.next (some x)).get n = _
  split
  · rename_i hn; subst hn; exact tr_get_put_same _ _ _ _ k.pos (lt_pow _)
  · rename_i hn; exact tr_get_put_ne _ _ _ _ n k.pos (lt_pow _) hn
theorem get_put {b n : Nat} {x : Option AB} (k : Ok h) (hb : 1 ≤ b) : (h.put b x).get n = if n = b then x else h.get n := by
  rw [Hp.get_eq, Hp.get_eq, Hp.hid_put, k.hid, Hp.tr_put]
  have e : inHid [] n = false := rfl
  rw [e]
  show (h.tr.put (Nat.succ b) b x).get n = _
  split
  · rename_i hn; subst hn; exact tr_get_put_same _ _ _ _ hb (lt_pow _)
  · rename_i hn; exact tr_get_put_ne _ _ _ _ n hb (lt_pow _) hn
/-- with some names out of sight -/
noncomputable def Hp.hide (h : Hp) (lo : Nat) (hid : List (Nat × Nat)) : Hp := .mk h.next h.tr lo hid
theorem inHid_nil' {n : Nat} : inHid [] n = false := by cases n <;> rfl
theorem inHid_cons' {a b n : Nat} {l : List (Nat × Nat)} : inHid ((a, b) :: l) n = if a ≤ n ∧ n < b then true else inHid l n := by
  show oif (Nat.ble a n) (oif (Nat.ble (n + 1) b) true (inHid l n)) (inHid l n) = _
  simp only [oif_if, nble]
  by_cases h1 : a ≤ n
  · by_cases h2 : n + 1 ≤ b
    · rw [if_pos h1, if_pos h2, if_pos ⟨h1, h2⟩]
    · rw [if_pos h1, if_neg h2, if_neg (fun h => h2 h.2)]
  · rw [if_neg h1, if_neg (fun h => h1 h.1)]
theorem get_hide {lo n : Nat} {hid : List (Nat × Nat)} (k : Ok h) : (h.hide lo hid).get n = if inHid hid n = true then none else h.get n := by
  rw [Hp.get_eq, Hp.get_eq, k.hid]; rfl
theorem nw_ok {cs : List SV} {ty : TypeId} {f : Nat → Hp → Option β} (k : Ok h) : nw h cs ty f = f h.next (h.push (.arr cs ty)) := by
  cases h with
  | mk n t lo hid =>
    obtain rfl : hid = [] := k.hid
    rfl
theorem nwx_ok {x : AB} {f : Nat → Hp → Option β} (k : Ok h) : nwx h x f = f h.next (h.push x) := by
  cases h with
  | mk n t lo hid =>
    obtain rfl : hid = [] := k.hid
    rfl
/-! ### operations that call nothing, one by one -/
theorem WO_new {dst : Option Nat} {e : TypeId} {z : List SV} {l : List IOper} : WO F (.mk dst (.a (.new e z)) none :: l) st fr h Q = obP (aop0 st fr h (.new e z)) (fun p => WO F l (p.1 :: st) (putD fr dst p.1) p.2 Q) := WO_mem rfl
theorem WD_new {es : List Ent} {dst : Option Nat} {e : TypeId} {z : List SV} {l : List (IOper × Option (List Nat))} : WD F ((.mk dst (.a (.new e z)) none, none) :: l) st es fr h Q = obP (aop0 st fr h (.new e z)) (fun p => WD F l (p.1 :: st) (.mk [] (some []) :: es) (putD fr dst p.1) p.2 Q) := WD_mem rfl
theorem WO_box {dst : Option Nat} {e : TypeId} {x : Od} {l : List IOper} : WO F (.mk dst (.a (.box e x)) none :: l) st fr h Q = obP (aop0 st fr h (.box e x)) (fun p => WO F l (p.1 :: st) (putD fr dst p.1) p.2 Q) := WO_mem rfl
theorem WD_box {es : List Ent} {dst : Option Nat} {e : TypeId} {x : Od} {l : List (IOper × Option (List Nat))} : WD F ((.mk dst (.a (.box e x)) none, none) :: l) st es fr h Q = obP (aop0 st fr h (.box e x)) (fun p => WD F l (p.1 :: st) (.mk [] (some []) :: es) (putD fr dst p.1) p.2 Q) := WD_mem rfl
theorem WO_bslice {dst : Option Nat} {e : TypeId} {size : Nat} {z : List SV} {len : Nat} {ps : List (Nat × Nat × Od)} {l : List IOper} : WO F (.mk dst (.a (.bslice e size z len ps)) none :: l) st fr h Q = obP (aop0 st fr h (.bslice e size z len ps)) (fun p => WO F l (p.1 :: st) (putD fr dst p.1) p.2 Q) := WO_mem rfl
theorem WD_bslice {es : List Ent} {dst : Option Nat} {e : TypeId} {size : Nat} {z : List SV} {len : Nat} {ps : List (Nat × Nat × Od)} {l : List (IOper × Option (List Nat))} : WD F ((.mk dst (.a (.bslice e size z len ps)) none, none) :: l) st es fr h Q = obP (aop0 st fr h (.bslice e size z len ps)) (fun p => WD F l (p.1 :: st) (.mk [] (some []) :: es) (putD fr dst p.1) p.2 Q) := WD_mem rfl
theorem WO_mkslice {dst : Option Nat} {e : TypeId} {size bytes : Nat} {z : List SV} {x y : Od} {l : List IOper} : WO F (.mk dst (.a (.mkslice e size bytes z x y)) none :: l) st fr h Q = obP (aop0 st fr h (.mkslice e size bytes z x y)) (fun p => WO F l (p.1 :: st) (putD fr dst p.1) p.2 Q) := WO_mem rfl
theorem WD_mkslice {es : List Ent} {dst : Option Nat} {e : TypeId} {size bytes : Nat} {z : List SV} {x y : Od} {l : List (IOper × Option (List Nat))} : WD F ((.mk dst (.a (.mkslice e size bytes z x y)) none, none) :: l) st es fr h Q = obP (aop0 st fr h (.mkslice e size bytes z x y)) (fun p => WD F l (p.1 :: st) (.mk [] (some []) :: es) (putD fr dst p.1) p.2 Q) := WD_mem rfl
theorem WO_load {dst : Option Nat} {n : Nat} {agg : Bool} {x : Od} {l : List IOper} : WO F (.mk dst (.a (.load n agg x)) none :: l) st fr h Q = obP (aop0 st fr h (.load n agg x)) (fun p => WO F l (p.1 :: st) (putD fr dst p.1) p.2 Q) := WO_mem rfl
theorem WD_load {es : List Ent} {dst : Option Nat} {n : Nat} {agg : Bool} {x : Od} {l : List (IOper × Option (List Nat))} : WD F ((.mk dst (.a (.load n agg x)) none, none) :: l) st es fr h Q = obP (aop0 st fr h (.load n agg x)) (fun p => WD F l (p.1 :: st) (.mk [] (some []) :: es) (putD fr dst p.1) p.2 Q) := WD_mem rfl
theorem WO_store {dst : Option Nat} {n : Nat} {x v : Od} {l : List IOper} : WO F (.mk dst (.a (.store n x v)) none :: l) st fr h Q = obP (aop0 st fr h (.store n x v)) (fun p => WO F l (p.1 :: st) (putD fr dst p.1) p.2 Q) := WO_mem rfl
theorem WD_store {es : List Ent} {dst : Option Nat} {n : Nat} {x v : Od} {l : List (IOper × Option (List Nat))} : WD F ((.mk dst (.a (.store n x v)) none, none) :: l) st es fr h Q = obP (aop0 st fr h (.store n x v)) (fun p => WD F l (p.1 :: st) (.mk [] (some []) :: es) (putD fr dst p.1) p.2 Q) := WD_mem rfl
theorem WO_app {dst : Option Nat} {e : TypeId} {size bytes : Nat} {x y : Od} {l : List IOper} : WO F (.mk dst (.a (.app e size bytes x y)) none :: l) st fr h Q = obP (aop0 st fr h (.app e size bytes x y)) (fun p => WO F l (p.1 :: st) (putD fr dst p.1) p.2 Q) := WO_mem rfl
theorem WD_app {es : List Ent} {dst : Option Nat} {e : TypeId} {size bytes : Nat} {x y : Od} {l : List (IOper × Option (List Nat))} : WD F ((.mk dst (.a (.app e size bytes x y)) none, none) :: l) st es fr h Q = obP (aop0 st fr h (.app e size bytes x y)) (fun p => WD F l (p.1 :: st) (.mk [] (some []) :: es) (putD fr dst p.1) p.2 Q) := WD_mem rfl
theorem WO_copy {dst : Option Nat} {size : Nat} {x y : Od} {l : List IOper} : WO F (.mk dst (.a (.copy size x y)) none :: l) st fr h Q = obP (aop0 st fr h (.copy size x y)) (fun p => WO F l (p.1 :: st) (putD fr dst p.1) p.2 Q) := WO_mem rfl
theorem WD_copy {es : List Ent} {dst : Option Nat} {size : Nat} {x y : Od} {l : List (IOper × Option (List Nat))} : WD F ((.mk dst (.a (.copy size x y)) none, none) :: l) st es fr h Q = obP (aop0 st fr h (.copy size x y)) (fun p => WD F l (p.1 :: st) (.mk [] (some []) :: es) (putD fr dst p.1) p.2 Q) := WD_mem rfl
theorem WO_clear {dst : Option Nat} {z : List SV} {x : Od} {l : List IOper} : WO F (.mk dst (.a (.clear z x)) none :: l) st fr h Q = obP (aop0 st fr h (.clear z x)) (fun p => WO F l (p.1 :: st) (putD fr dst p.1) p.2 Q) := WO_mem rfl
theorem WD_clear {es : List Ent} {dst : Option Nat} {z : List SV} {x : Od} {l : List (IOper × Option (List Nat))} : WD F ((.mk dst (.a (.clear z x)) none, none) :: l) st es fr h Q = obP (aop0 st fr h (.clear z x)) (fun p => WD F l (p.1 :: st) (.mk [] (some []) :: es) (putD fr dst p.1) p.2 Q) := WD_mem rfl
theorem WO_mkmap {dst : Option Nat} {va : Bool} {l : List IOper} : WO F (.mk dst (.a (.mkmap va)) none :: l) st fr h Q = obP (aop0 st fr h (.mkmap va)) (fun p => WO F l (p.1 :: st) (putD fr dst p.1) p.2 Q) := WO_mem rfl
theorem WD_mkmap {es : List Ent} {dst : Option Nat} {va : Bool} {l : List (IOper × Option (List Nat))} : WD F ((.mk dst (.a (.mkmap va)) none, none) :: l) st es fr h Q = obP (aop0 st fr h (.mkmap va)) (fun p => WD F l (p.1 :: st) (.mk [] (some []) :: es) (putD fr dst p.1) p.2 Q) := WD_mem rfl
theorem WO_look {dst : Option Nat} {sig : List Bool} {va : Bool} {z : List SV} {okf : Bool} {x k : Od} {l : List IOper} : WO F (.mk dst (.a (.look sig va z okf x k)) none :: l) st fr h Q = obP (aop0 st fr h (.look sig va z okf x k)) (fun p => WO F l (p.1 :: st) (putD fr dst p.1) p.2 Q) := WO_mem rfl
theorem WD_look {es : List Ent} {dst : Option Nat} {sig : List Bool} {va : Bool} {z : List SV} {okf : Bool} {x k : Od} {l : List (IOper × Option (List Nat))} : WD F ((.mk dst (.a (.look sig va z okf x k)) none, none) :: l) st es fr h Q = obP (aop0 st fr h (.look sig va z okf x k)) (fun p => WD F l (p.1 :: st) (.mk [] (some []) :: es) (putD fr dst p.1) p.2 Q) := WD_mem rfl
theorem WO_mupd {dst : Option Nat} {sig : List Bool} {va : Bool} {x k v : Od} {l : List IOper} : WO F (.mk dst (.a (.mupd sig va x k v)) none :: l) st fr h Q = obP (aop0 st fr h (.mupd sig va x k v)) (fun p => WO F l (p.1 :: st) (putD fr dst p.1) p.2 Q) := WO_mem rfl
theorem WD_mupd {es : List Ent} {dst : Option Nat} {sig : List Bool} {va : Bool} {x k v : Od} {l : List (IOper × Option (List Nat))} : WD F ((.mk dst (.a (.mupd sig va x k v)) none, none) :: l) st es fr h Q = obP (aop0 st fr h (.mupd sig va x k v)) (fun p => WD F l (p.1 :: st) (.mk [] (some []) :: es) (putD fr dst p.1) p.2 Q) := WD_mem rfl
theorem WO_slicea {dst : Option Nat} {n size : Nat} {x : Od} {l : List IOper} : WO F (.mk dst (.a (.slicea n size x)) none :: l) st fr h Q = obP (aop0 st fr h (.slicea n size x)) (fun p => WO F l (p.1 :: st) (putD fr dst p.1) p.2 Q) := WO_mem rfl
theorem WD_slicea {es : List Ent} {dst : Option Nat} {n size : Nat} {x : Od} {l : List (IOper × Option (List Nat))} : WD F ((.mk dst (.a (.slicea n size x)) none, none) :: l) st es fr h Q = obP (aop0 st fr h (.slicea n size x)) (fun p => WD F l (p.1 :: st) (.mk [] (some []) :: es) (putD fr dst p.1) p.2 Q) := WD_mem rfl
theorem WO_boxc {dst : Option Nat} {size : Nat} {x : Od} {l : List IOper} : WO F (.mk dst (.a (.boxc size x)) none :: l) st fr h Q = obP (aop0 st fr h (.boxc size x)) (fun p => WO F l (p.1 :: st) (putD fr dst p.1) p.2 Q) := WO_mem rfl
theorem WD_boxc {es : List Ent} {dst : Option Nat} {size : Nat} {x : Od} {l : List (IOper × Option (List Nat))} : WD F ((.mk dst (.a (.boxc size x)) none, none) :: l) st es fr h Q = obP (aop0 st fr h (.boxc size x)) (fun p => WD F l (p.1 :: st) (.mk [] (some []) :: es) (putD fr dst p.1) p.2 Q) := WD_mem rfl
/-! ### reading and writing -/
noncomputable def rdB (x : Option AB) (off n : Nat) : Option (List SV) := ob x (fun x => AB.casesOn (motive := fun _ => Option (List SV)) x (fun cs _ => ltake n (ldrop off cs)) (fun _ _ => none))
theorem rd_eq {b off n : Nat} : rd h b off n = rdB (h.get b) off n := rfl
theorem rdB_arr {cs : List SV} {ty : TypeId} {off n : Nat} : rdB (some (.arr cs ty)) off n = ltake n (ldrop off cs) := rfl
noncomputable def wrB (h : Hp) (b : Nat) (x : Option AB) (off : Nat) (xs : List SV) : Option Hp := ob x (fun x => AB.casesOn (motive := fun _ => Option Hp) x (fun cs ty => ob (loverAt off xs cs) (fun cs' => some (h.put b (some (.arr cs' ty))))) (fun _ _ => none))
theorem wr_eq {b off : Nat} {xs : List SV} (k : Ok h) : wr h b off xs = wrB h b (h.get b) off xs := by
  show oif (Nat.ble h.lo b) _ none = _
  rw [k.lo]; rfl
theorem wrB_arr {b : Nat} {cs : List SV} {ty : TypeId} {off : Nat} {xs : List SV} : wrB h b (some (.arr cs ty)) off xs = ob (loverAt off xs cs) (fun cs' => some (h.put b (some (.arr cs' ty)))) := rfl
noncomputable def loadV (h : Hp) (n : Nat) (agg : Bool) (v : AV) : Option AV := sPtrC v (fun b off => ob (rd h b off n) (fun cs => mkAV agg cs)) (fun cs => ob (ltake n cs) (fun cs => mkAV agg cs))
theorem loadV_ptr {n b o : Nat} {agg : Bool} : loadV h n agg (.s (.ptr b o)) = ob (rdB (h.get b) o n) (fun cs => mkAV agg cs) := rfl
theorem loadV_cp {n : Nat} {cs : List SV} {agg : Bool} : loadV h n agg (.s (.cp cs)) = ob (ltake n cs) (fun cs => mkAV agg cs) := rfl
theorem ob_ob {α γ : Type} {x : Option α} {f : α → Option β} {g : β → Option γ} : ob (ob x f) g = ob x (fun a => ob (f a) g) := by cases x <;> rfl
theorem aop_load {n : Nat} {agg : Bool} {x : Od} : aop0 st fr h (.load n agg x) = ob (ev st fr x) (fun v => ob (loadV h n agg v) (fun v => ok v h)) := by
  show ob (ev st fr x) (fun v => sPtrC v (fun b off => ob (rd h b off n) (fun cs => ob (mkAV agg cs) (fun v => ok v h))) (fun cs => ob (ltake n cs) (fun cs => ob (mkAV agg cs) (fun v => ok v h)))) = _
  congr 1
  funext v
  cases v with
  | s v => cases v <;> first | rfl | (show ob _ _ = ob (ob _ _) _; rw [ob_ob])
  | _ => rfl
noncomputable def storeV (h : Hp) (n : Nat) (p v : AV) : R := sPtr p (fun b off => cel v (fun cs => oif (Nat.beq (llen cs) n) (ob (wr h b off cs) (fun h => ok .undef h)) none))
theorem aop_store {n : Nat} {x v : Od} : aop0 st fr h (.store n x v) = ob (ev st fr x) (fun p => ob (ev st fr v) (fun v => storeV h n p v)) := rfl
theorem storeV_s {b o : Nat} {v : SV} (k : Ok h) : storeV h 1 (.s (.ptr b o)) (.s v) = ob (wrB h b (h.get b) o [v]) (fun h => ok .undef h) := by
  show ob (wr h b o [v]) _ = _
  rw [wr_eq k]
theorem storeV_agg {n b o : Nat} {cs : List SV} (k : Ok h) (hn : cs.length = n) : storeV h n (.s (.ptr b o)) (.agg cs) = ob (wrB h b (h.get b) o cs) (fun h => ok .undef h) := by
  show oif (Nat.beq (llen cs) n) (ob (wr h b o cs) _) none = _
  rw [wr_eq k, llen_eq, hn, Nat.beq_refl]; rfl
theorem aop_new {e : TypeId} {z : List SV} (k : Ok h) : aop0 st fr h (.new e z) = some (.s (.ptr h.next 0), h.push (.arr z e)) := by
  show nw h z e (fun n h => ok (.s (.ptr n 0)) h) = _
  rw [nw_ok k]; rfl
theorem aop_box {e : TypeId} {x : Od} (k : Ok h) : aop0 st fr h (.box e x) = ob (ev st fr x) (fun v => cel v (fun cs => some (.s (.ptr h.next 0), h.push (.arr cs e)))) := by
  show ob (ev st fr x) (fun v => cel v (fun cs => nw h cs e (fun n h => ok (.s (.ptr n 0)) h))) = _
  congr 1; funext v; congr 1; funext cs; rw [nw_ok k]; rfl
theorem aop_bslice {e : TypeId} {size : Nat} {z : List SV} {len : Nat} {ps : List (Nat × Nat × Od)} (k : Ok h) : aop0 st fr h (.bslice e size z len ps) = ob (fill st fr ps z) (fun cs => some (.s (.slice h.next 0 len len true size), h.push (.arr cs e))) := by
  show ob (fill st fr ps z) (fun cs => nw h cs e (fun n h => ok (.s (.slice n 0 len len true size)) h)) = _
  congr 1; funext cs; rw [nw_ok k]; rfl
noncomputable def mksV (h : Hp) (e : TypeId) (size bytes : Nat) (z : List SV) (l c : AV) : R := inat l (fun m => inat c (fun k => oif (Nat.ble m k) (oif (Nat.ble (Nat.mul bytes k) 1000000000) (oif (Nat.ble k 1000000000) (nw h (rep z k) e (fun b h => ok (.s (.slice b 0 m k true size)) h)) none) none) none))
theorem aop_mkslice {e : TypeId} {size bytes : Nat} {z : List SV} {l c : Od} : aop0 st fr h (.mkslice e size bytes z l c) = ob (ev st fr l) (fun v => ob (ev st fr c) (fun u => mksV h e size bytes z v u)) := rfl
theorem mksV_ok {e : TypeId} {size bytes : Nat} {z : List SV} {m : Nat} (k : Ok h) (h1 : bytes * m ≤ 1000000000) (h2 : m ≤ 1000000000) : mksV h e size bytes z (vi m) (vi m) = some (.s (.slice h.next 0 m m true size), h.push (.arr (rep z m) e)) := by
  show oif (Nat.ble m m) (oif (Nat.ble (Nat.mul bytes m) 1000000000) (oif (Nat.ble m 1000000000) (nw h (rep z m) e _) none) none) none = _
  rw [nw_ok k, ble_true (Nat.le_refl m), ble_true h2, show Nat.ble (Nat.mul bytes m) 1000000000 = true from ble_true h1]; rfl
/-! ### slices -/
noncomputable def ixsV (size : Nat) (v w : AV) : Option AV := sSliceC v none (fun b off len _ _ _ => below w len (fun m => some (.s (.ptr b (Nat.add off (Nat.mul m size))))))
    (fun rows => below w (llen rows) (fun m => ob (lget rows m) (fun row => oif (Nat.beq (llen row) size) (some (.s (.cp row))) none))) none
theorem pop_ixs {size : Nat} {x i : Od} : pop st fr (.ixs size x i) = ob (ev st fr x) (fun v => ob (ev st fr i) (fun w => ixsV size v w)) := rfl
theorem below_nat {m n : Nat} {f : Nat → Option β} (hm : m < n) : below (vi (m : Int)) n f = f m := by
  show oif (Nat.ble (Nat.succ m) n) (f m) none = _
  rw [ble_true (show Nat.succ m ≤ n from hm)]; rfl
theorem ixsV_slice {size b off len mc sz m : Nat} {ex : Bool} (hm : m < len) : ixsV size (.s (.slice b off len mc ex sz)) (vi (m : Int)) = some (.s (.ptr b (off + m * size))) := below_nat (f := fun m => some (AV.s (.ptr b (Nat.add off (Nat.mul m size))))) hm
theorem ixsV_slice0 {size b off len mc sz : Nat} {ex : Bool} (hm : 0 < len) : ixsV size (.s (.slice b off len mc ex sz)) (vi 0) = some (.s (.ptr b off)) := by
  have := below_nat (f := fun m => some (AV.s (.ptr b (Nat.add off (Nat.mul m size))))) hm
  refine this.trans ?_
  show some (AV.s (.ptr b (off + 0 * size))) = _
  rw [Nat.zero_mul, Nat.add_zero]
theorem ixsV_lst {size m : Nat} {rows : List (List SV)} {row : List SV} (hr : rows[m]? = some row) (hl : row.length = size) : ixsV size (.s (.lst rows)) (vi (m : Int)) = some (.s (.cp row)) := by
  have hm : m < rows.length := by
    rcases Nat.lt_or_ge m rows.length with h | h
    · exact h
    · rw [List.getElem?_eq_none h] at hr; cases hr
  have := below_nat (f := fun m => ob (lget rows m) (fun row => oif (Nat.beq (llen row) size) (some (AV.s (.cp row))) none)) (show m < llen rows by rw [llen_eq]; exact hm)
  refine this.trans ?_
  rw [lget_eq, hr]
  show oif (Nat.beq (llen row) size) _ none = _
  rw [llen_eq, hl, Nat.beq_refl]; rfl
noncomputable def ixaV (n size : Nat) (v w : AV) : Option AV := sPtrC v (fun b off => below w n (fun m => some (.s (.ptr b (Nat.add off (Nat.mul m size)))))) (fun cs => below w n (fun m => some (.s (.cp (ldrop (Nat.mul m size) cs)))))
theorem pop_ixa {n size : Nat} {x i : Od} : pop st fr (.ixa n size x i) = ob (ev st fr x) (fun v => ob (ev st fr i) (fun w => ixaV n size v w)) := rfl
theorem ixaV_ptr {n size b off m : Nat} (hm : m < n) : ixaV n size (.s (.ptr b off)) (vi (m : Int)) = some (.s (.ptr b (off + m * size))) := below_nat (f := fun m => some (AV.s (.ptr b (Nat.add off (Nat.mul m size))))) hm
theorem ixaV_cp {n size m : Nat} {cs : List SV} (hm : m < n) : ixaV n size (.s (.cp cs)) (vi (m : Int)) = some (.s (.cp (ldrop (m * size) cs))) := below_nat (f := fun m => some (AV.s (.cp (ldrop (Nat.mul m size) cs)))) hm
/-- appends -/
noncomputable def appB (h : Hp) (e : TypeId) (size bytes b n m : Nat) (x : Option AB) (new : List SV) : R :=
  small bytes (Nat.add n m) (ob x (fun x => AB.casesOn (motive := fun _ => R) x (fun cs ty =>
    ob (ltake (Nat.mul n size) (ldrop 0 cs)) (fun old => (oif (Nat.ble h.lo b) (oif (Nat.beq ty e) (nw (h.put b none) (lapp old new) e (fun k h => ok (.s (.slice k 0 (Nat.add n m) (Nat.add n m) false size)) h)) none) none))) (fun _ _ => none)))
noncomputable def appV (h : Hp) (e : TypeId) (size bytes : Nat) (v w : AV) : R := sSliceC w (sAny v (ok v h)) (fun b' off' m _ _ _ => ob (rd h b' off' (Nat.mul m size)) (fun new => appTo h e size bytes m v new))
    (fun rows => ob (flat size rows) (fun new => appTo h e size bytes (llen rows) v new)) (sAny v (ok v h))
theorem aop_app {e : TypeId} {size bytes : Nat} {x y : Od} : aop0 st fr h (.app e size bytes x y) = ob (ev st fr x) (fun v => ob (ev st fr y) (fun w => appV h e size bytes v w)) := rfl
/-- nothing is added -/
theorem appV_nil_nil {e : TypeId} {size bytes : Nat} : appV h e size bytes (.s .nilSlice) (.s .nilSlice) = some (.s .nilSlice, h) := rfl
theorem appV_slice_nil {e : TypeId} {size bytes b o n mc sz : Nat} {ex : Bool} : appV h e size bytes (.s (.slice b o n mc ex sz)) (.s .nilSlice) = some (.s (.slice b o n mc ex sz), h) := rfl
theorem appV_nil_slice {e : TypeId} {size bytes b' o' m mc' sz' : Nat} {ex' : Bool} : appV h e size bytes (.s .nilSlice) (.s (.slice b' o' m mc' ex' sz')) = ob (rdB (h.get b') o' (m * size)) (fun new => Nat.casesOn (motive := fun _ => R) m (some (.s .nilSlice, h)) (fun _ => small bytes m (nw h new e (fun k h => ok (.s (.slice k 0 m m false size)) h)))) := rfl
theorem small_ok {bytes n : Nat} {x : R} (h1 : n * bytes ≤ 1000000000) (h2 : n ≤ 1000000000) : small bytes n x = x := by
  show oif (Nat.ble (Nat.mul n bytes) 1000000000) (oif (Nat.ble n 1000000000) x none) none = _
  rw [show Nat.ble (Nat.mul n bytes) 1000000000 = true from ble_true h1, ble_true h2]; rfl
/-- to a slice without room, whose cells are all its own -/
theorem appV_slice_slice {e : TypeId} {size bytes b n b' o' m mc' sz' : Nat} {ex' : Bool} (hm : 1 ≤ m) : appV h e size bytes (.s (.slice b 0 n n false size)) (.s (.slice b' o' m mc' ex' sz')) = ob (rdB (h.get b') o' (m * size)) (fun new => appB h e size bytes b n m (h.get b) new) := by
  show ob (rdB (h.get b') o' (m * size)) (fun new => oif (Nat.beq size size) (oif (Nat.ble (Nat.add n m) n) _ (small bytes (Nat.add n m) (appMove h e size b 0 n m false new))) none) = _
  congr 1
  funext new
  have e1 : Nat.ble (Nat.add n m) n = false := by
    cases e : Nat.ble (Nat.add n m) n with
    | false => rfl
    | true => rw [nble] at e; have : n + m ≤ n := e; omega
  rw [Nat.beq_refl]
  show oif (Nat.ble (Nat.add n m) n) _ _ = _
  rw [e1]
  rfl
theorem appB_ok {e : TypeId} {size bytes b n m : Nat} {cs new : List SV} (k : Ok h) (hc : cs.length = n * size) (h1 : (n + m) * bytes ≤ 1000000000) (h2 : n + m ≤ 1000000000) :
    appB h e size bytes b n m (some (.arr cs e)) new = some (.s (.slice h.next 0 (n + m) (n + m) false size), (h.put b none).push (.arr (cs ++ new) e)) := by
  show small bytes (n + m) (ob (ltake (n * size) cs) (fun old => oif (Nat.ble h.lo b) (oif (Nat.beq e e) (nw (h.put b none) (lapp old new) e _) none) none)) = _
  rw [small_ok h1 h2, (ltake_some _).2 ⟨Nat.le_of_eq hc.symm, rfl⟩, ← hc, List.take_length]
  show oif (Nat.ble h.lo b) (oif (Nat.beq e e) (nw (h.put b none) (lapp cs new) e _) none) none = _
  rw [k.lo, Nat.beq_refl, nw_ok (Ok_put k), lapp_eq, Hp.next_put]
  rfl
/-! ### cuts -/
noncomputable def sliceV (size : Nat) (v : AV) (lo hi : Option (Option Nat)) : Option AV := none
/-! ### results -/
noncomputable def resV (v : AV) : Option (Bool × List SV) := AV.casesOn (motive := fun _ => Option (Bool × List SV)) v (fun s => some (false, [s])) (fun l => some (true, l)) (fun _ => none) none none
theorem resV_s {x : SV} : resV (.s x) = some (false, [x]) := rfl
theorem resV_agg {l : List SV} : resV (.agg l) = some (true, l) := rfl
theorem resOf_tmp {g : Nat} : resOf fr h (.tmp g) = ob (lget fr g) resV := rfl
theorem resOf_cell {g n : Nat} {agg : Bool} : resOf fr h (.cell g n agg) = ob (lget fr g) (fun v => sPtr v (fun b off => ob (rdB (h.get b) off n) (fun cs => some (agg, cs)))) := rfl
theorem resAll_nil : resAll fr h [] = some [] := rfl
theorem resAll_cons {r : IR} {l : List IR} : resAll fr h (r :: l) = ob (resOf fr h r) (fun v => ob (resAll fr h l) (fun x => some (v :: x))) := rfl
theorem result_nil : result (.mk fr h) [] = some (.tup [], h) := rfl
theorem result_one {r : IR} : result (.mk fr h) [r] = ob (resOf fr h r) (fun p => ob (mkAV p.1 p.2) (fun v => some (v, h))) := by
  show ob (ob (resOf fr h r) (fun v => ob (some []) (fun x => some (v :: x)))) (fun vs => List.casesOn (motive := fun _ => R) vs (ok (.tup []) h) (fun p r => List.casesOn (motive := fun _ => R) r (ob (mkAV p.1 p.2) (fun v => ok v h)) (fun _ _ => ok (.tup vs) h))) = _
  cases resOf fr h r <;> rfl
theorem result_two {r r' : IR} {l : List IR} : result (.mk fr h) (r :: r' :: l) = ob (resAll fr h (r :: r' :: l)) (fun vs => some (.tup vs, h)) := by
  show ob (resAll fr h (r :: r' :: l)) (fun vs => List.casesOn (motive := fun _ => R) vs (ok (.tup []) h) (fun p r => List.casesOn (motive := fun _ => R) r (ob (mkAV p.1 p.2) (fun v => ok v h)) (fun _ _ => ok (.tup vs) h))) = _
  rw [resAll_cons, resAll_cons]
  cases resOf fr h r with
  | none => rfl
  | some a => cases resOf fr h r' with
    | none => rfl
    | some b => cases resAll fr h l <;> rfl
theorem ok_eq {v : AV} : ok v h = some (v, h) := rfl
/-! ### in regions that draw -/
theorem sel_nil {es : List Ent} {hid : List (Nat × Nat)} : sel es [] hid = some hid := rfl
theorem sel_cons {es : List Ent} {j : Nat} {js : List Nat} {hid : List (Nat × Nat)} : sel es (j :: js) hid = ob (lget es j) (fun e => ob (sel es js hid) (fun l => Ent.casesOn (motive := fun _ => Option (List (Nat × Nat))) e (fun iv _ => some (iv ++ l)))) := by
  show ob (lget es j) (fun e => ob (sel es js hid) (fun l => Ent.casesOn (motive := fun _ => Option (List (Nat × Nat))) e (fun iv _ => some (lapp iv l)))) = _
  simp only [lapp_eq]
def fpV : AV → List Nat
  | .s (.ptr b _) => [b]
  | _ => []
theorem fpV_ptr {b o : Nat} : fpV (.s (.ptr b o)) = [b] := rfl
theorem fpV_cp {cs : List SV} : fpV (.s (.cp cs)) = [] := rfl
theorem WD_head_load {es : List Ent} {dst : Option Nat} {n : Nat} {agg : Bool} {x : Od} {js : List Nat} {l : List (IOper × Option (List Nat))} : WD F ((.mk dst (.a (.load n agg x)) none, some js) :: l) st es fr h Q = obP (sel es js h.hid) (fun hid' => obP (ev st fr x) (fun p => obP (loadV (h.hide h.next hid') n agg p) (fun v => WD F l (v :: st) (.mk [] (some (fpV p)) :: es) (putD fr dst v) h Q))) := by
  cases h with
  | mk k t lo hid =>
  rw [WD_op (x := ob (sel es js hid) (fun hid' => ob (ev st fr x) (fun p => ob (loadV (.mk k t k hid') n agg p) (fun v => some (DR.mk v (.mk k t lo hid) (.mk [] (some (fpV p)))))))) (fun cl => ?_)]
  · refine propext ⟨fun ⟨p, h1, h2⟩ => ?_, fun ⟨hid', h0, q, h1, v, h2, h3⟩ => ⟨.mk v (.mk k t lo hid) (.mk [] (some (fpV q))), ob_some.2 ⟨hid', h0, ob_some.2 ⟨q, h1, ob_some.2 ⟨v, h2, rfl⟩⟩⟩, h3⟩⟩
    obtain ⟨hid', h3, h4⟩ := ob_some.1 h1
    obtain ⟨q, h5, h6⟩ := ob_some.1 h4
    obtain ⟨v, h7, h8⟩ := ob_some.1 h6
    cases h8
    exact ⟨hid', h3, q, h5, v, h7, h2⟩
  · show drHead cl st fr es (.mk k t lo hid) (.a (.load n agg x)) js = _
    show ob (sel es js hid) (fun hid' => Cls.casesOn (motive := fun _ => Option DR) (clOb (ob (ev st fr x) (fun v => sPtrC v (fun b _ => some (Cls.load b)) (fun _ => some .quiet))) (fun c => c))
      (drIn cl st fr k t lo k hid hid' (.a (.load n agg x)) (fun n' => .mk [(k, n')] (some [])))
      (fun x' => drIn cl st fr k t lo k hid hid' (.a (.load n agg x)) (fun _ => .mk [] (some [x'])))
      (fun b => oif (unread es js b) (oif (Nat.ble lo b) (ob (Hp.get (.mk k t lo hid') b) (fun _ => drIn cl st fr k t lo lo hid hid' (.a (.load n agg x)) (fun n' => .mk [(b, Nat.succ b), (k, n')] none))) none) none)
      (drIn cl st fr k t lo k hid hid' (.a (.load n agg x)) (fun _ => .mk [] (some [])))
      (drIn cl st fr k t lo k hid hid' (.a (.load n agg x)) (fun n' => .mk [(k, n')] none))) = _
    congr 1
    funext hid'
    have key : ∀ e : Nat → Ent, drIn cl st fr k t lo k hid hid' (.a (.load n agg x)) e = ob (ev st fr x) (fun p => ob (loadV (.mk k t k hid') n agg p) (fun v => some (DR.mk v (.mk k t lo hid) (e k)))) := fun e => by
      show ob (aop cl st fr (.mk k t k hid') (.load n agg x)) _ = _
      rw [aop_any (show AO.calls (.load n agg x) = false from rfl), aop_load]
      cases ev st fr x with
      | none => rfl
      | some p =>
        show ob (ob (loadV (.mk k t k hid') n agg p) _) _ = ob (loadV (.mk k t k hid') n agg p) _
        cases loadV (.mk k t k hid') n agg p <;> rfl
    have k1 := key (fun n' => .mk [(k, n')] none)
    have k3 := key (fun _ => .mk [] (some []))
    have k2 := fun b => key (fun _ => .mk [] (some [b]))
    cases hx : ev st fr x with
    | none =>
      rw [hx] at k1
      exact k1
    | some p =>
      rw [hx] at k1 k3
      simp only [hx] at k2
      cases p with
      | s p =>
        cases p with
        | ptr b o => exact k2 b
        | cp cs => exact k3
        | _ => exact k1
      | _ => exact k1
theorem WD_head_bslice {es : List Ent} {dst : Option Nat} {e : TypeId} {size : Nat} {z : List SV} {len : Nat} {ps : List (Nat × Nat × Od)} {js : List Nat} {l : List (IOper × Option (List Nat))} : WD F ((.mk dst (.a (.bslice e size z len ps)) none, some js) :: l) st es fr h Q = obP (sel es js h.hid) (fun hid' => obP (fill st fr ps z) (fun cs => inHid hid' h.next = false ∧ WD F l (.s (.slice h.next 0 len len true size) :: st) (.mk [(h.next, h.next + 1)] (some []) :: es) (putD fr dst (.s (.slice h.next 0 len len true size))) (h.push (.arr cs e)) Q)) := by
  cases h with
  | mk k t lo hid =>
  rw [WD_op (x := ob (sel es js hid) (fun hid' => ob (fill st fr ps z) (fun cs => oif (inHid hid' k) none (some (DR.mk (.s (.slice k 0 len len true size)) ((Hp.mk k t lo hid).push (.arr cs e)) (.mk [(k, k + 1)] (some []))))))) (fun cl => ?_)]
  · refine propext ⟨fun ⟨p, h1, h2⟩ => ?_, fun ⟨hid', h0, cs, h1, h2, h3⟩ => ⟨DR.mk (.s (.slice k 0 len len true size)) ((Hp.mk k t lo hid).push (.arr cs e)) (.mk [(k, k + 1)] (some [])), ob_some.2 ⟨hid', h0, ob_some.2 ⟨cs, h1, ?_⟩⟩, h3⟩⟩
    · obtain ⟨hid', h3, h4⟩ := ob_some.1 h1
      obtain ⟨cs, h5, h6⟩ := ob_some.1 h4
      rw [oif_if] at h6
      split at h6
      · cases h6
      · rename_i h7
        cases h6
        exact ⟨hid', h3, cs, h5, Bool.eq_false_iff.2 h7, h2⟩
    · have h2' : inHid hid' k = false := h2
      rw [h2']; rfl
  · show drHead cl st fr es (.mk k t lo hid) (.a (.bslice e size z len ps)) js = _
    show ob (sel es js hid) (fun hid' => ob (ob (fill st fr ps z) (fun cs => oif (inHid hid' k) none (ok (.s (.slice k 0 len len true size)) (Hp.mk (Nat.succ k) (t.put (Nat.succ k) k (some (.arr cs e))) k hid')))) (fun p => Hp.casesOn (motive := fun _ => Option DR) p.2 (fun n' t' _ _ => some (.mk p.1 (.mk n' t' lo hid) (.mk [(k, n')] (some [])))))) = _
    congr 1
    funext hid'
    cases fill st fr ps z with
    | none => rfl
    | some cs =>
      show ob (oif (inHid hid' k) none _) _ = oif (inHid hid' k) none _
      cases inHid hid' k <;> rfl
/-- a call that is answered at once, whatever the heap -/
theorem WD_head_ans {es : List Ent} {dst : Option Nat} {f : FuncId} {as : List Od} {js : List Nat} {l : List (IOper × Option (List Nat))} {vs : List AV} {u : AV} (hv : evs st fr as = some vs) (hx : ∀ h, fnsX F f vs h = some (u, h)) : WD F ((.mk dst (.a (.call f as)) none, some js) :: l) st es fr h Q = obP (sel es js h.hid) (fun _ => WD F l (u :: st) (.mk [(h.next, h.next)] none :: es) (putD fr dst u) h Q) := by
  cases h with
  | mk k t lo hid =>
  cases F with
  | mk T X =>
  have hr : ∀ ih h, runCl (.mk T X) ih f vs h = some (u, h) := fun ih h => by
    show Option.rec (motive := fun _ => R) _ (fun r => some r) (X f vs h) = _
    rw [show X f vs h = some (u, h) from hx h]
  have hd : ∀ n, drDo (runCl (.mk T X) (run (.mk T X) n)) st fr es (.mk k t lo hid) (.a (.call f as)) none (some js) = ob (sel es js hid) (fun _ => some (DR.mk u (.mk k t lo hid) (.mk [(k, k)] none))) := fun n => by
    show ob (sel es js hid) (fun hid' => ob (ob (evs st fr as) (fun vs => runCl (.mk T X) (run (.mk T X) n) f vs (.mk k t k hid'))) (fun p => Hp.casesOn (motive := fun _ => Option DR) p.2 (fun n' t' _ _ => some (.mk p.1 (.mk n' t' lo hid) (.mk [(k, n')] none))))) = _
    congr 1
    funext hid'
    rw [hv]
    show ob (runCl (.mk T X) (run (.mk T X) n) f vs (.mk k t k hid')) _ = _
    rw [hr]
    rfl
  rw [WD_cons]
  refine propext ⟨fun ⟨n, v, h', e, h1, h2⟩ => ?_, fun ⟨hid', h0, h1⟩ => ⟨0, u, .mk k t lo hid, .mk [(k, k)] none, ?_, h1⟩⟩
  · rw [hd] at h1
    obtain ⟨hid', h3, h4⟩ := ob_some.1 h1
    cases h4
    exact ⟨hid', h3, h2⟩
  · rw [hd]
    exact ob_some.2 ⟨hid', h0, rfl⟩
end
end Go.Proofs.Ytaljcpoopmedmaa.Ev

/- Open runs, once more: each step's rest as data, so that a rewriting does not look into it before it is its turn. No program in sight. -/
namespace Go.Proofs.Ytaljcpoopmedmaa.Ev
open Go Go.RowKit
set_option linter.unusedVariables false
set_option linter.unusedSimpArgs false
section
variable {F : Fns} {s : St} {st fr : List AV} {h h' : Hp} {Q : Ex → St → Prop} {l : List IOper} {dst : Option Nat} {v w : AV} {m : List (IOper × Option (List Nat))} {es : List Ent}
/-! ### regions in order -/
def zpO (F : Fns) (x : Option AV) (dst : Option Nat) (l : List IOper) (st fr : List AV) (h : Hp) (Q : Ex → St → Prop) : Prop := obP x (fun v => WO F l (v :: st) (putD fr dst v) h Q)
theorem zpO_some : zpO F (some v) dst l st fr h Q = WO F l (v :: st) (putD fr dst v) h Q := obP_some
def zmO (F : Fns) (x : R) (dst : Option Nat) (l : List IOper) (st fr : List AV) (Q : Ex → St → Prop) : Prop := obP x (fun p => WO F l (p.1 :: st) (putD fr dst p.1) p.2 Q)
theorem zmO_some : zmO F (some (v, h)) dst l st fr Q = WO F l (v :: st) (putD fr dst v) h Q := obP_some
def contO (F : Fns) (dst : Option Nat) (l : List IOper) (st fr : List AV) (Q : Ex → St → Prop) (v : AV) (h : Hp) : Prop := WO F l (v :: st) (putD fr dst v) h Q
theorem contO_eq : contO F dst l st fr Q v h = WO F l (v :: st) (putD fr dst v) h Q := rfl
def zkO (F : Fns) (x : Option (List AV)) (f : FuncId) (dst : Option Nat) (l : List IOper) (st fr : List AV) (h : Hp) (Q : Ex → St → Prop) : Prop := obP x (fun vs => WC F f vs h (contO F dst l st fr Q))
theorem zkO_some {vs : List AV} {f : FuncId} : zkO F (some vs) f dst l st fr h Q = WC F f vs h (contO F dst l st fr Q) := obP_some
def zgO (F : Fns) (x : Option AV) (t : Bool) (dst : Option Nat) (op : IOp) (l : List IOper) (st fr : List AV) (h : Hp) (Q : Ex → St → Prop) : Prop := gP x t (WO F (.mk dst op none :: l) st fr h Q) (WO F l (.undef :: st) (putD fr dst .undef) h Q)
theorem zgO_bool {b t : Bool} {op : IOp} : zgO F (some (.s (.bool b))) t dst op l st fr h Q = if b = t then WO F (.mk dst op none :: l) st fr h Q else WO F l (.undef :: st) (putD fr dst .undef) h Q := gP_bool
theorem zgO_undef {t : Bool} {op : IOp} : zgO F (some .undef) t dst op l st fr h Q = WO F l (.undef :: st) (putD fr dst .undef) h Q := gP_undef
def zcO (F : Fns) (x : Option AV) (a b : IC) (fr : List AV) (h : Hp) (Q : Ex → St → Prop) : Prop := cndP x (W F a (.mk fr h) Q) (W F b (.mk fr h) Q)
theorem zcO_bool {b : Bool} {x y : IC} : zcO F (some (.s (.bool b))) x y fr h Q = if b = true then W F x (.mk fr h) Q else W F y (.mk fr h) Q := cndP_some
theorem LW_cond {c : Od} {x y : IC} : W F (.cond c x y) (.mk fr h) Q = zcO F (ev [] fr c) x y fr h Q := W_cond
theorem LO_pure {o : PO} : WO F (.mk dst (.p o) none :: l) st fr h Q = zpO F (pop st fr o) dst l st fr h Q := WO_pure
theorem LO_call {f : FuncId} {as : List Od} : WO F (.mk dst (.a (.call f as)) none :: l) st fr h Q = zkO F (evs st fr as) f dst l st fr h Q := WO_call
theorem LO_guard {op : IOp} {i : Nat} {t : Bool} : WO F (.mk dst op (some (i, t)) :: l) st fr h Q = zgO F (lget st i) t dst op l st fr h Q := WO_guard
theorem LO_callv {x : Od} {as : List Od} {f : FuncId} {caps : List (Nat × Nat)} (hx : ev st fr x = some (.s (.func f caps))) : WO F (.mk dst (.a (.callv x as)) none :: l) st fr h Q = zkO F (ob (evs st fr as) (fun vs => some (vs ++ capAVs caps))) f dst l st fr h Q := by
  rw [WO_callv]
  refine propext ⟨fun ⟨g, cs, h1, vs, h2, h3⟩ => ?_, fun ⟨vs, h1, h2⟩ => ?_⟩
  · rw [hx] at h1; cases h1
    exact ⟨_, ob_some.2 ⟨vs, h2, rfl⟩, h3⟩
  · obtain ⟨us, h3, h4⟩ := ob_some.1 h1
    cases h4
    exact ⟨f, caps, hx, us, h3, h2⟩
/-! ### regions that draw -/
def zpD (F : Fns) (x : Option AV) (e : Ent) (dst : Option Nat) (m : List (IOper × Option (List Nat))) (st : List AV) (es : List Ent) (fr : List AV) (h : Hp) (Q : Ex → St → Prop) : Prop := obP x (fun v => WD F m (v :: st) (e :: es) (putD fr dst v) h Q)
theorem zpD_some {e : Ent} : zpD F (some v) e dst m st es fr h Q = WD F m (v :: st) (e :: es) (putD fr dst v) h Q := obP_some
def zmD (F : Fns) (x : R) (dst : Option Nat) (m : List (IOper × Option (List Nat))) (st : List AV) (es : List Ent) (fr : List AV) (Q : Ex → St → Prop) : Prop := obP x (fun p => WD F m (p.1 :: st) (.mk [] (some []) :: es) (putD fr dst p.1) p.2 Q)
theorem zmD_some : zmD F (some (v, h)) dst m st es fr Q = WD F m (v :: st) (.mk [] (some []) :: es) (putD fr dst v) h Q := obP_some
def contD (F : Fns) (dst : Option Nat) (m : List (IOper × Option (List Nat))) (st : List AV) (es : List Ent) (fr : List AV) (Q : Ex → St → Prop) (v : AV) (h : Hp) : Prop := WD F m (v :: st) (.mk [] (some []) :: es) (putD fr dst v) h Q
theorem contD_eq : contD F dst m st es fr Q v h = WD F m (v :: st) (.mk [] (some []) :: es) (putD fr dst v) h Q := rfl
def zkD (F : Fns) (x : Option (List AV)) (f : FuncId) (dst : Option Nat) (m : List (IOper × Option (List Nat))) (st : List AV) (es : List Ent) (fr : List AV) (h : Hp) (Q : Ex → St → Prop) : Prop := obP x (fun vs => WC F f vs h (contD F dst m st es fr Q))
theorem zkD_some {vs : List AV} {f : FuncId} : zkD F (some vs) f dst m st es fr h Q = WC F f vs h (contD F dst m st es fr Q) := obP_some
def zgD (F : Fns) (x : Option AV) (t : Bool) (dst : Option Nat) (op : IOp) (o : Option (List Nat)) (m : List (IOper × Option (List Nat))) (st : List AV) (es : List Ent) (fr : List AV) (h : Hp) (Q : Ex → St → Prop) : Prop := gP x t (WD F ((.mk dst op none, o) :: m) st es fr h Q) (WD F m (.undef :: st) (.mk [] (some []) :: es) (putD fr dst .undef) h Q)
theorem zgD_bool {b t : Bool} {op : IOp} {o : Option (List Nat)} : zgD F (some (.s (.bool b))) t dst op o m st es fr h Q = if b = t then WD F ((.mk dst op none, o) :: m) st es fr h Q else WD F m (.undef :: st) (.mk [] (some []) :: es) (putD fr dst .undef) h Q := gP_bool
theorem zgD_undef {t : Bool} {op : IOp} {o : Option (List Nat)} : zgD F (some .undef) t dst op o m st es fr h Q = WD F m (.undef :: st) (.mk [] (some []) :: es) (putD fr dst .undef) h Q := gP_undef
theorem LD_pure {o : PO} : WD F ((.mk dst (.p o) none, none) :: m) st es fr h Q = zpD F (pop st fr o) (.mk [] (some [])) dst m st es fr h Q := WD_pure
theorem LD_call {f : FuncId} {as : List Od} : WD F ((.mk dst (.a (.call f as)) none, none) :: m) st es fr h Q = zkD F (evs st fr as) f dst m st es fr h Q := WD_call
theorem LD_guard {op : IOp} {i : Nat} {t : Bool} {o : Option (List Nat)} : WD F ((.mk dst op (some (i, t)), o) :: m) st es fr h Q = zgD F (lget st i) t dst op o m st es fr h Q := WD_guard
/-- ahead: a selection that there is -/
def zhD (x : Option (List (Nat × Nat))) (P : List (Nat × Nat) → Prop) : Prop := obP x P
def zhpD (F : Fns) (x : Option (List (Nat × Nat))) (o : Option AV) (dst : Option Nat) (m : List (IOper × Option (List Nat))) (st : List AV) (es : List Ent) (fr : List AV) (h : Hp) (Q : Ex → St → Prop) : Prop := obP x (fun _ => zpD F o (.mk [(h.next, h.next)] (some [])) dst m st es fr h Q)
theorem zhpD_some {x : List (Nat × Nat)} {o : Option AV} : zhpD F (some x) o dst m st es fr h Q = zpD F o (.mk [(h.next, h.next)] (some [])) dst m st es fr h Q := obP_some
theorem LD_head_pure {o : PO} {js : List Nat} : WD F ((.mk dst (.p o) none, some js) :: m) st es fr h Q = zhpD F (sel es js h.hid) (pop st fr o) dst m st es fr h Q := WD_head_pure
def zhlD (F : Fns) (x : Option (List (Nat × Nat))) (n : Nat) (agg : Bool) (p : Option AV) (dst : Option Nat) (m : List (IOper × Option (List Nat))) (st : List AV) (es : List Ent) (fr : List AV) (h : Hp) (Q : Ex → St → Prop) : Prop := obP x (fun hid' => obP p (fun p => zpD F (loadV (h.hide h.next hid') n agg p) (.mk [] (some (fpV p))) dst m st es fr h Q))
theorem zhlD_some {x : List (Nat × Nat)} {n : Nat} {agg : Bool} : zhlD F (some x) n agg (some w) dst m st es fr h Q = zpD F (loadV (h.hide h.next x) n agg w) (.mk [] (some (fpV w))) dst m st es fr h Q := by
  unfold zhlD; rw [obP_some, obP_some]
theorem LD_head_load {n : Nat} {agg : Bool} {x : Od} {js : List Nat} : WD F ((.mk dst (.a (.load n agg x)) none, some js) :: m) st es fr h Q = zhlD F (sel es js h.hid) n agg (ev st fr x) dst m st es fr h Q := WD_head_load
def zhbD (F : Fns) (x : Option (List (Nat × Nat))) (cs : Option (List SV)) (e : TypeId) (size len : Nat) (dst : Option Nat) (m : List (IOper × Option (List Nat))) (st : List AV) (es : List Ent) (fr : List AV) (h : Hp) (Q : Ex → St → Prop) : Prop := obP x (fun hid' => obP cs (fun cs => inHid hid' h.next = false ∧ WD F m (.s (.slice h.next 0 len len true size) :: st) (.mk [(h.next, h.next + 1)] (some []) :: es) (putD fr dst (.s (.slice h.next 0 len len true size))) (h.push (.arr cs e)) Q))
theorem zhbD_some {x : List (Nat × Nat)} {cs : List SV} {e : TypeId} {size len : Nat} (hx : inHid x h.next = false) : zhbD F (some x) (some cs) e size len dst m st es fr h Q = WD F m (.s (.slice h.next 0 len len true size) :: st) (.mk [(h.next, h.next + 1)] (some []) :: es) (putD fr dst (.s (.slice h.next 0 len len true size))) (h.push (.arr cs e)) Q := by
  unfold zhbD; rw [obP_some, obP_some]; exact propext ⟨fun h => h.2, fun h => ⟨hx, h⟩⟩
theorem LD_head_bslice {e : TypeId} {size : Nat} {z : List SV} {len : Nat} {ps : List (Nat × Nat × Od)} {js : List Nat} : WD F ((.mk dst (.a (.bslice e size z len ps)) none, some js) :: m) st es fr h Q = zhbD F (sel es js h.hid) (fill st fr ps z) e size len dst m st es fr h Q := WD_head_bslice
def zhaD (F : Fns) (x : Option (List (Nat × Nat))) (u : AV) (dst : Option Nat) (m : List (IOper × Option (List Nat))) (st : List AV) (es : List Ent) (fr : List AV) (h : Hp) (Q : Ex → St → Prop) : Prop := obP x (fun _ => WD F m (u :: st) (.mk [(h.next, h.next)] none :: es) (putD fr dst u) h Q)
theorem zhaD_some {x : List (Nat × Nat)} {u : AV} : zhaD F (some x) u dst m st es fr h Q = WD F m (u :: st) (.mk [(h.next, h.next)] none :: es) (putD fr dst u) h Q := obP_some
/-- a call ahead that is answered at once: its arguments, then its answer -/
def zhkD (F : Fns) (x : Option (List (Nat × Nat))) (vs : Option (List AV)) (f : FuncId) (dst : Option Nat) (m : List (IOper × Option (List Nat))) (st : List AV) (es : List Ent) (fr : List AV) (h : Hp) (Q : Ex → St → Prop) : Prop := obP vs (fun vs => ∃ u, (∀ h, fnsX F f vs h = some (u, h)) ∧ zhaD F x u dst m st es fr h Q)
theorem zhkD_some {x : Option (List (Nat × Nat))} {vs : List AV} {f : FuncId} {u : AV} (hx : ∀ h, fnsX F f vs h = some (u, h)) : zhkD F x (some vs) f dst m st es fr h Q = zhaD F x u dst m st es fr h Q := by
  unfold zhkD
  rw [obP_some]
  refine propext ⟨fun ⟨u', h1, h2⟩ => ?_, fun h1 => ⟨u, hx, h1⟩⟩
  have := h1 h
  rw [hx] at this
  cases this
  exact h2
theorem LD_head_call {f : FuncId} {as : List Od} {js : List Nat} (hq : zhkD F (sel es js h.hid) (evs st fr as) f dst m st es fr h Q) : WD F ((.mk dst (.a (.call f as)) none, some js) :: m) st es fr h Q := by
  obtain ⟨vs, h1, u, h2, h3⟩ := hq
  rw [WD_head_ans h1 h2]
  exact h3
/-! ### operations that call nothing, one by one -/
theorem LO_new {e : TypeId} {z : List SV} : WO F (.mk dst (.a (.new e z)) none :: l) st fr h Q = zmO F (aop0 st fr h (.new e z)) dst l st fr Q := WO_mem rfl
theorem LD_new {e : TypeId} {z : List SV} : WD F ((.mk dst (.a (.new e z)) none, none) :: m) st es fr h Q = zmD F (aop0 st fr h (.new e z)) dst m st es fr Q := WD_mem rfl
theorem LO_box {e : TypeId} {x : Od} : WO F (.mk dst (.a (.box e x)) none :: l) st fr h Q = zmO F (aop0 st fr h (.box e x)) dst l st fr Q := WO_mem rfl
theorem LD_box {e : TypeId} {x : Od} : WD F ((.mk dst (.a (.box e x)) none, none) :: m) st es fr h Q = zmD F (aop0 st fr h (.box e x)) dst m st es fr Q := WD_mem rfl
theorem LO_bslice {e : TypeId} {size : Nat} {z : List SV} {len : Nat} {ps : List (Nat × Nat × Od)} : WO F (.mk dst (.a (.bslice e size z len ps)) none :: l) st fr h Q = zmO F (aop0 st fr h (.bslice e size z len ps)) dst l st fr Q := WO_mem rfl
theorem LD_bslice {e : TypeId} {size : Nat} {z : List SV} {len : Nat} {ps : List (Nat × Nat × Od)} : WD F ((.mk dst (.a (.bslice e size z len ps)) none, none) :: m) st es fr h Q = zmD F (aop0 st fr h (.bslice e size z len ps)) dst m st es fr Q := WD_mem rfl
theorem LO_mkslice {e : TypeId} {size bytes : Nat} {z : List SV} {x y : Od} : WO F (.mk dst (.a (.mkslice e size bytes z x y)) none :: l) st fr h Q = zmO F (aop0 st fr h (.mkslice e size bytes z x y)) dst l st fr Q := WO_mem rfl
theorem LD_mkslice {e : TypeId} {size bytes : Nat} {z : List SV} {x y : Od} : WD F ((.mk dst (.a (.mkslice e size bytes z x y)) none, none) :: m) st es fr h Q = zmD F (aop0 st fr h (.mkslice e size bytes z x y)) dst m st es fr Q := WD_mem rfl
theorem LO_load {n : Nat} {agg : Bool} {x : Od} : WO F (.mk dst (.a (.load n agg x)) none :: l) st fr h Q = zmO F (aop0 st fr h (.load n agg x)) dst l st fr Q := WO_mem rfl
theorem LD_load {n : Nat} {agg : Bool} {x : Od} : WD F ((.mk dst (.a (.load n agg x)) none, none) :: m) st es fr h Q = zmD F (aop0 st fr h (.load n agg x)) dst m st es fr Q := WD_mem rfl
theorem LO_store {n : Nat} {x y : Od} : WO F (.mk dst (.a (.store n x y)) none :: l) st fr h Q = zmO F (aop0 st fr h (.store n x y)) dst l st fr Q := WO_mem rfl
theorem LD_store {n : Nat} {x y : Od} : WD F ((.mk dst (.a (.store n x y)) none, none) :: m) st es fr h Q = zmD F (aop0 st fr h (.store n x y)) dst m st es fr Q := WD_mem rfl
theorem LO_app {e : TypeId} {size bytes : Nat} {x y : Od} : WO F (.mk dst (.a (.app e size bytes x y)) none :: l) st fr h Q = zmO F (aop0 st fr h (.app e size bytes x y)) dst l st fr Q := WO_mem rfl
theorem LD_app {e : TypeId} {size bytes : Nat} {x y : Od} : WD F ((.mk dst (.a (.app e size bytes x y)) none, none) :: m) st es fr h Q = zmD F (aop0 st fr h (.app e size bytes x y)) dst m st es fr Q := WD_mem rfl
theorem LO_copy {size : Nat} {x y : Od} : WO F (.mk dst (.a (.copy size x y)) none :: l) st fr h Q = zmO F (aop0 st fr h (.copy size x y)) dst l st fr Q := WO_mem rfl
theorem LD_copy {size : Nat} {x y : Od} : WD F ((.mk dst (.a (.copy size x y)) none, none) :: m) st es fr h Q = zmD F (aop0 st fr h (.copy size x y)) dst m st es fr Q := WD_mem rfl
theorem LO_clear {z : List SV} {x : Od} : WO F (.mk dst (.a (.clear z x)) none :: l) st fr h Q = zmO F (aop0 st fr h (.clear z x)) dst l st fr Q := WO_mem rfl
theorem LD_clear {z : List SV} {x : Od} : WD F ((.mk dst (.a (.clear z x)) none, none) :: m) st es fr h Q = zmD F (aop0 st fr h (.clear z x)) dst m st es fr Q := WD_mem rfl
theorem LO_mkmap {va : Bool} : WO F (.mk dst (.a (.mkmap va)) none :: l) st fr h Q = zmO F (aop0 st fr h (.mkmap va)) dst l st fr Q := WO_mem rfl
theorem LD_mkmap {va : Bool} : WD F ((.mk dst (.a (.mkmap va)) none, none) :: m) st es fr h Q = zmD F (aop0 st fr h (.mkmap va)) dst m st es fr Q := WD_mem rfl
theorem LO_look {sig : List Bool} {va : Bool} {z : List SV} {okf : Bool} {x k : Od} : WO F (.mk dst (.a (.look sig va z okf x k)) none :: l) st fr h Q = zmO F (aop0 st fr h (.look sig va z okf x k)) dst l st fr Q := WO_mem rfl
theorem LD_look {sig : List Bool} {va : Bool} {z : List SV} {okf : Bool} {x k : Od} : WD F ((.mk dst (.a (.look sig va z okf x k)) none, none) :: m) st es fr h Q = zmD F (aop0 st fr h (.look sig va z okf x k)) dst m st es fr Q := WD_mem rfl
theorem LO_mupd {sig : List Bool} {va : Bool} {x k y : Od} : WO F (.mk dst (.a (.mupd sig va x k y)) none :: l) st fr h Q = zmO F (aop0 st fr h (.mupd sig va x k y)) dst l st fr Q := WO_mem rfl
theorem LD_mupd {sig : List Bool} {va : Bool} {x k y : Od} : WD F ((.mk dst (.a (.mupd sig va x k y)) none, none) :: m) st es fr h Q = zmD F (aop0 st fr h (.mupd sig va x k y)) dst m st es fr Q := WD_mem rfl
theorem LO_slicea {n size : Nat} {x : Od} : WO F (.mk dst (.a (.slicea n size x)) none :: l) st fr h Q = zmO F (aop0 st fr h (.slicea n size x)) dst l st fr Q := WO_mem rfl
theorem LD_slicea {n size : Nat} {x : Od} : WD F ((.mk dst (.a (.slicea n size x)) none, none) :: m) st es fr h Q = zmD F (aop0 st fr h (.slicea n size x)) dst m st es fr Q := WD_mem rfl
theorem LO_boxc {size : Nat} {x : Od} : WO F (.mk dst (.a (.boxc size x)) none :: l) st fr h Q = zmO F (aop0 st fr h (.boxc size x)) dst l st fr Q := WO_mem rfl
theorem LD_boxc {size : Nat} {x : Od} : WD F ((.mk dst (.a (.boxc size x)) none, none) :: m) st es fr h Q = zmD F (aop0 st fr h (.boxc size x)) dst m st es fr Q := WD_mem rfl
/-! ### operations -/
noncomputable def binV (o : BO) (x y : Option AV) : Option AV := ob x (fun a => ob y (fun b => svc none a (fun a => svc none b (fun b => binSV o a b))))
theorem Lp_bin {o : BO} {x y : Od} : pop st fr (.bin o x y) = binV o (ev st fr x) (ev st fr y) := rfl
theorem binV_some {o : BO} {a b : SV} : binV o (some (.s a)) (some (.s b)) = binSV o a b := rfl
noncomputable def fldV (off : Nat) (x : Option AV) : Option AV := ob x (fun v => sPtrC v (fun b o => some (.s (.ptr b (o + off)))) (fun cs => some (.s (.cp (ldrop off cs)))))
theorem Lp_fld {off : Nat} {x : Od} : pop st fr (.fld off x) = fldV off (ev st fr x) := rfl
theorem fldV_ptr {off b o : Nat} : fldV off (some (.s (.ptr b o))) = some (.s (.ptr b (o + off))) := rfl
theorem fldV_cp {off : Nat} {cs : List SV} : fldV off (some (.s (.cp cs))) = some (.s (.cp (ldrop off cs))) := rfl
noncomputable def nchkV (x : Option AV) : Option AV := ob x (fun v => sPtrC v (fun b o => some (.s (.ptr b o))) (fun cs => some (.s (.cp cs))))
theorem Lp_nchk {x : Od} : pop st fr (.nchk x) = nchkV (ev st fr x) := rfl
theorem nchkV_ptr {b o : Nat} : nchkV (some (.s (.ptr b o))) = some (.s (.ptr b o)) := rfl
theorem nchkV_cp {cs : List SV} : nchkV (some (.s (.cp cs))) = some (.s (.cp cs)) := rfl
noncomputable def lenO (x : Option AV) : Option AV := ob x lenV
theorem Lp_len {x : Od} : pop st fr (.len x) = lenO (ev st fr x) := rfl
theorem lenO_some : lenO (some v) = lenV v := rfl
noncomputable def ixsO (size : Nat) (x y : Option AV) : Option AV := ob x (fun v => ob y (fun w => ixsV size v w))
theorem Lp_ixs {size : Nat} {x i : Od} : pop st fr (.ixs size x i) = ixsO size (ev st fr x) (ev st fr i) := rfl
theorem ixsO_some {size : Nat} : ixsO size (some v) (some w) = ixsV size v w := rfl
noncomputable def ixaO (n size : Nat) (x y : Option AV) : Option AV := ob x (fun v => ob y (fun w => ixaV n size v w))
theorem Lp_ixa {n size : Nat} {x i : Od} : pop st fr (.ixa n size x i) = ixaO n size (ev st fr x) (ev st fr i) := rfl
theorem ixaO_some {n size : Nat} : ixaO n size (some v) (some w) = ixaV n size v w := rfl
noncomputable def pickO (x : Option AV) (a b : Od) (st fr : List AV) : Option AV := ob x (fun v => sBool v (fun t => ev st fr (oif t a b)))
theorem Lp_pick {c a b : Od} : pop st fr (.pick c a b) = pickO (ev st fr c) a b st fr := rfl
theorem pickO_bool {t : Bool} {a b : Od} : pickO (some (.s (.bool t))) a b st fr = if t = true then ev st fr a else ev st fr b := by cases t <;> rfl
noncomputable def extO (i : Nat) (x : Option AV) : Option AV := ob x (fun v => AV.casesOn (motive := fun _ => Option AV) v (fun _ => none) (fun _ => none) (fun l => ob (lget l i) (fun p => mkAV p.1 p.2)) none none)
theorem Lp_ext {i : Nat} {x : Od} : pop st fr (.ext i x) = extO i (ev st fr x) := rfl
noncomputable def mk1 (p : Option (Bool × List SV)) : Option AV := ob p (fun p => mkAV p.1 p.2)
theorem mk1_some {a : Bool} {l : List SV} : mk1 (some (a, l)) = mkAV a l := rfl
theorem extO_tup {i : Nat} {l : List (Bool × List SV)} : extO i (some (.tup l)) = mk1 (lget l i) := rfl
noncomputable def ldR (h : Hp) (agg : Bool) (cs : Option (List SV)) : R := ob cs (fun cs => ob (mkAV agg cs) (fun v => ok v h))
theorem ldR_t {cs : List SV} : ldR h true (some cs) = some (.agg cs, h) := rfl
theorem ldR_f {a : SV} : ldR h false (some [a]) = some (.s a, h) := rfl
noncomputable def loadO (h : Hp) (n : Nat) (agg : Bool) (x : Option AV) : R := ob x (fun v => ob (loadV h n agg v) (fun v => ok v h))
theorem La_load {n : Nat} {agg : Bool} {x : Od} : aop0 st fr h (.load n agg x) = loadO h n agg (ev st fr x) := aop_load
theorem loadO_ptr {n b o : Nat} {agg : Bool} : loadO h n agg (some (.s (.ptr b o))) = ldR h agg (rdB (h.get b) o n) := by
  show ob (ob (rdB (h.get b) o n) _) _ = _
  rw [ob_ob]; rfl
theorem loadO_cp {n : Nat} {cs : List SV} {agg : Bool} : loadO h n agg (some (.s (.cp cs))) = ldR h agg (ltake n cs) := by
  show ob (ob (ltake n cs) _) _ = _
  rw [ob_ob]; rfl
noncomputable def storeO (h : Hp) (n : Nat) (x y : Option AV) : R := ob x (fun p => ob y (fun v => storeV h n p v))
theorem La_store {n : Nat} {x v : Od} : aop0 st fr h (.store n x v) = storeO h n (ev st fr x) (ev st fr v) := rfl
noncomputable def stR (h : Option Hp) : R := ob h (fun h => ok .undef h)
theorem stR_some : stR (some h) = some (.undef, h) := rfl
theorem storeO_s {b o : Nat} {x : SV} (k : Ok h) : storeO h 1 (some (.s (.ptr b o))) (some (.s x)) = stR (wrB h b (h.get b) o [x]) := storeV_s k
theorem storeO_agg {n b o : Nat} {cs : List SV} (k : Ok h) (hn : cs.length = n) : storeO h n (some (.s (.ptr b o))) (some (.agg cs)) = stR (wrB h b (h.get b) o cs) := storeV_agg k hn
noncomputable def appO (h : Hp) (e : TypeId) (size bytes : Nat) (x y : Option AV) : R := ob x (fun v => ob y (fun w => appV h e size bytes v w))
theorem La_app {e : TypeId} {size bytes : Nat} {x y : Od} : aop0 st fr h (.app e size bytes x y) = appO h e size bytes (ev st fr x) (ev st fr y) := rfl
theorem appO_some {e : TypeId} {size bytes : Nat} : appO h e size bytes (some v) (some w) = appV h e size bytes v w := rfl
noncomputable def bsO (h : Hp) (e : TypeId) (size len : Nat) (x : Option (List SV)) : R := ob x (fun cs => some (.s (.slice h.next 0 len len true size), h.push (.arr cs e)))
theorem bsO_some {e : TypeId} {size len : Nat} {cs : List SV} : bsO h e size len (some cs) = some (.s (.slice h.next 0 len len true size), h.push (.arr cs e)) := rfl
theorem La_bslice {e : TypeId} {size : Nat} {z : List SV} {len : Nat} {ps : List (Nat × Nat × Od)} (k : Ok h) : aop0 st fr h (.bslice e size z len ps) = bsO h e size len (fill st fr ps z) := aop_bslice k
noncomputable def boxO (h : Hp) (e : TypeId) (x : Option AV) : R := ob x (fun v => cel v (fun cs => some (.s (.ptr h.next 0), h.push (.arr cs e))))
theorem La_box {e : TypeId} {x : Od} (k : Ok h) : aop0 st fr h (.box e x) = boxO h e (ev st fr x) := aop_box k
theorem boxO_s {e : TypeId} {x : SV} : boxO h e (some (.s x)) = some (.s (.ptr h.next 0), h.push (.arr [x] e)) := rfl
theorem boxO_agg {e : TypeId} {cs : List SV} : boxO h e (some (.agg cs)) = some (.s (.ptr h.next 0), h.push (.arr cs e)) := rfl
noncomputable def mksO (h : Hp) (e : TypeId) (size bytes : Nat) (z : List SV) (x y : Option AV) : R := ob x (fun v => ob y (fun u => mksV h e size bytes z v u))
theorem La_mkslice {e : TypeId} {size bytes : Nat} {z : List SV} {l c : Od} : aop0 st fr h (.mkslice e size bytes z l c) = mksO h e size bytes z (ev st fr l) (ev st fr c) := rfl
theorem mksO_some {e : TypeId} {size bytes : Nat} {z : List SV} : mksO h e size bytes z (some v) (some w) = mksV h e size bytes z v w := rfl
theorem mksV_lit {e : TypeId} {size bytes k : Nat} {z : List SV} (ok : Ok h) (h1 : bytes * k ≤ 1000000000) (h2 : k ≤ 1000000000) {n : Int} (hn : n = (k : Int)) : mksV h e size bytes z (vi n) (vi n) = some (.s (.slice h.next 0 k k true size), h.push (.arr (rep z k) e)) := by
  subst hn; exact mksV_ok ok h1 h2
/-! ### results -/
noncomputable def re1 (h : Hp) (x : Option (Bool × List SV)) : R := ob x (fun p => ob (mkAV p.1 p.2) (fun v => some (v, h)))
theorem Lr_one {r : IR} : result (.mk fr h) [r] = re1 h (resOf fr h r) := result_one
theorem re1_f {a : SV} : re1 h (some (false, [a])) = some (.s a, h) := rfl
theorem re1_t {l : List SV} : re1 h (some (true, l)) = some (.agg l, h) := rfl
noncomputable def reT (g : Option AV) : Option (Bool × List SV) := ob g resV
theorem Lr_tmp {g : Nat} : resOf fr h (.tmp g) = reT (lget fr g) := rfl
theorem reT_s {x : SV} : reT (some (.s x)) = some (false, [x]) := rfl
theorem reT_agg {x : List SV} : reT (some (.agg x)) = some (true, x) := rfl
noncomputable def reC (h : Hp) (n : Nat) (agg : Bool) (g : Option AV) : Option (Bool × List SV) := ob g (fun v => sPtr v (fun b off => ob (rdB (h.get b) off n) (fun cs => some (agg, cs))))
theorem Lr_cell {g n : Nat} {agg : Bool} : resOf fr h (.cell g n agg) = reC h n agg (lget fr g) := rfl
noncomputable def reP (agg : Bool) (x : Option (List SV)) : Option (Bool × List SV) := ob x (fun cs => some (agg, cs))
theorem reP_some {agg : Bool} {cs : List SV} : reP agg (some cs) = some (agg, cs) := rfl
theorem reC_ptr {n b o : Nat} {agg : Bool} : reC h n agg (some (.s (.ptr b o))) = reP agg (rdB (h.get b) o n) := rfl
def outP (x : R) (Q : AV → Hp → Prop) : Prop := obP x (fun p => Q p.1 p.2)
theorem outP_some {Q : AV → Hp → Prop} : outP (some (v, h)) Q = Q v h := obP_some
theorem Lret_normal {res : List IR} {Q : AV → Hp → Prop} : retQ res Q .normal s = outP (result s res) Q := rfl
theorem Lret_ret {res : List IR} {Q : AV → Hp → Prop} : retQ res Q .ret s = outP (result s res) Q := rfl
noncomputable def re2 (h : Hp) (x : Option (List (Bool × List SV))) : R := ob x (fun vs => some (.tup vs, h))
theorem re2_some {l : List (Bool × List SV)} : re2 h (some l) = some (.tup l, h) := rfl
theorem Lr_two {r r' : IR} {k : List IR} : result (.mk fr h) (r :: r' :: k) = re2 h (resAll fr h (r :: r' :: k)) := result_two
/-! ### places told by numbers -/
theorem ixsV_slice1 {size b off len mc sz : Nat} {ex : Bool} (hm : 1 < len) : ixsV size (.s (.slice b off len mc ex sz)) (vi 1) = some (.s (.ptr b (off + size))) := by
  have := ixsV_slice (size := size) (b := b) (off := off) (len := len) (mc := mc) (sz := sz) (ex := ex) hm
  rw [Nat.one_mul] at this; exact this
theorem ixaV_ptr0 {n size b off : Nat} (hm : 0 < n) : ixaV n size (.s (.ptr b off)) (vi 0) = some (.s (.ptr b off)) := by
  have := ixaV_ptr (n := n) (size := size) (b := b) (off := off) hm
  rw [Nat.zero_mul, Nat.add_zero] at this; exact this
theorem ixaV_ptr1 {n size b off : Nat} (hm : 1 < n) : ixaV n size (.s (.ptr b off)) (vi 1) = some (.s (.ptr b (off + size))) := by
  have := ixaV_ptr (n := n) (size := size) (b := b) (off := off) hm
  rw [Nat.one_mul] at this; exact this
theorem ixaV_cp0 {n size : Nat} {cs : List SV} (hm : 0 < n) : ixaV n size (.s (.cp cs)) (vi 0) = some (.s (.cp cs)) := by
  have := ixaV_cp (n := n) (size := size) (cs := cs) hm
  rw [Nat.zero_mul] at this; exact this
theorem ixaV_cp1 {n size : Nat} {cs : List SV} (hm : 1 < n) : ixaV n size (.s (.cp cs)) (vi 1) = some (.s (.cp (ldrop size cs))) := by
  have := ixaV_cp (n := n) (size := size) (cs := cs) hm
  rw [Nat.one_mul] at this; exact this
theorem hid_ok (k : Ok h) : h.hid = [] := k.hid
noncomputable def mkL (agg : Bool) (x : Option (List SV)) : Option AV := ob x (fun cs => mkAV agg cs)
theorem mkL_t {cs : List SV} : mkL true (some cs) = some (.agg cs) := rfl
theorem mkL_f {a : SV} : mkL false (some [a]) = some (.s a) := rfl
theorem LV_ptr {n b o : Nat} {agg : Bool} : loadV h n agg (.s (.ptr b o)) = mkL agg (rdB (h.get b) o n) := rfl
theorem LV_cp {n : Nat} {cs : List SV} {agg : Bool} : loadV h n agg (.s (.cp cs)) = mkL agg (ltake n cs) := rfl
/-! ### numbers that are known to be in bounds -/
theorem emod_le {a b : Int} (h1 : 0 ≤ a) (h3 : 0 < b) : 0 ≤ a % b ∧ a % b ≤ a := by
  have h2 := Int.emod_add_mul_ediv a b
  have h := Int.ediv_nonneg h1 (Int.le_of_lt h3)
  have h4 := Int.mul_nonneg (Int.le_of_lt h3) h
  exact ⟨Int.emod_nonneg a (by omega), by omega⟩
theorem bin_rem_pos {a b : Int} (h1 : 0 ≤ a) (h2 : a ≤ 9223372036854775807) (h3 : 0 < b) : binSV .rem (.int .i64 a) (.int .i64 b) = some (vi (a % b)) := by
  have := emod_le h1 h3
  rw [bin_rem, if_neg (by omega), Int.tmod_eq_emod_of_nonneg h1, num64_ok (by omega) (by omega)]
theorem tdiv_in {a b : Int} (h1 : -9223372036854775808 ≤ a) (h2 : a ≤ 9223372036854775807) (h3 : 0 < b) : -9223372036854775808 ≤ a.tdiv b ∧ a.tdiv b ≤ 9223372036854775807 := by
  have h := Int.natAbs_tdiv_le_natAbs a b
  rcases (by omega : a < 0 ∨ 0 ≤ a) with h4 | h4
  · have h5 : a.tdiv b ≤ 0 := by
      obtain ⟨c, rfl⟩ : ∃ c, a = -c := ⟨-a, by omega⟩
      rw [Int.neg_tdiv]
      have := Int.tdiv_nonneg (a := c) (b := b) (by omega) (Int.le_of_lt h3)
      omega
    omega
  · omega
theorem bin_quo_pos {a b : Int} (h1 : -9223372036854775808 ≤ a) (h2 : a ≤ 9223372036854775807) (h3 : 0 < b) : binSV .quo (.int .i64 a) (.int .i64 b) = some (vi (a.tdiv b)) := by
  have := tdiv_in h1 h2 h3
  rw [bin_quo, if_neg (by omega), num64_ok this.1 this.2]
theorem tdiv_nat {a b : Nat} : (a : Int).tdiv (b : Int) = ((a / b : Nat) : Int) := rfl
theorem bin_shr_pos {a n : Int} {k : IntKind} (h1 : 0 ≤ n) (h2 : n ≤ 63) : binSV .shr (.int .i64 a) (.int k n) = some (vi (a / 2 ^ n.toNat)) := by
  obtain ⟨m, rfl⟩ := Int.eq_ofNat_of_zero_le h1
  exact bin_shr (by omega)
theorem self_add {a n : Nat} : (a = a + (n + 1)) = False := eq_false (by omega)
theorem add_self {a n : Nat} : (a + (n + 1) = a) = False := eq_false (by omega)
theorem mksV_two {e : TypeId} {bytes : Nat} {x : SV} (ok : Ok h) (h1 : bytes ≤ 1000) : mksV h e 1 bytes [x] (vi 2) (vi 2) = some (.s (.slice h.next 0 2 2 true 1), h.push (.arr [x, x] e)) :=
  mksV_ok (m := 2) ok (by omega) (by omega)
theorem n_ne {a b : Nat} (h : a ≠ b) : (a = b) = False := eq_false h
theorem n_nle {a b : Nat} (h : b < a) : (a ≤ b) = False := eq_false (by omega)
theorem n_nlt {a b : Nat} (h : b ≤ a) : (a < b) = False := eq_false (by omega)
theorem n_le {a b : Nat} (h : a ≤ b) : (a ≤ b) = True := eq_true h
theorem n_lt {a b : Nat} (h : a < b) : (a < b) = True := eq_true h
theorem i_nle {a b : Int} (h : b < a) : (a ≤ b) = False := eq_false (by omega)
theorem i_nlt {a b : Int} (h : b ≤ a) : (a < b) = False := eq_false (by omega)
theorem i_le {a b : Int} (h : a ≤ b) : (a ≤ b) = True := eq_true h
theorem i_lt {a b : Int} (h : a < b) : (a < b) = True := eq_true h
theorem i_ne {a b : Int} (h : a ≠ b) : (a = b) = False := eq_false h
theorem i_eq {a b : Int} (h : a = b) : (a = b) = True := eq_true h
/-! ### calls ahead -/
def contH (F : Fns) (dst : Option Nat) (m : List (IOper × Option (List Nat))) (st : List AV) (es : List Ent) (fr : List AV) (h : Hp) (Q : Ex → St → Prop) (v : AV) (h' : Hp) : Prop := WD F m (v :: st) (.mk [(h.next, h'.next)] none :: es) (putD fr dst v) (.mk h'.next h'.tr h.lo h.hid) Q
def zkH (F : Fns) (x : Option (List (Nat × Nat))) (vs : Option (List AV)) (f : FuncId) (dst : Option Nat) (m : List (IOper × Option (List Nat))) (st : List AV) (es : List Ent) (fr : List AV) (h : Hp) (Q : Ex → St → Prop) : Prop := obP x (fun hid' => obP vs (fun vs => WC F f vs (h.hide h.next hid') (contH F dst m st es fr h Q)))
theorem zkH_some {x : List (Nat × Nat)} {vs : List AV} {f : FuncId} : zkH F (some x) (some vs) f dst m st es fr h Q = WC F f vs (h.hide h.next x) (contH F dst m st es fr h Q) := by
  unfold zkH; rw [obP_some, obP_some]
theorem contH_hide {lo : Nat} {x : List (Nat × Nat)} : contH F dst m st es fr h Q v (h.hide lo x) = WD F m (v :: st) (.mk [(h.next, h.next)] none :: es) (putD fr dst v) h Q := by cases h; rfl
theorem LD_head_callk {f : FuncId} {as : List Od} {js : List Nat} : WD F ((.mk dst (.a (.call f as)) none, some js) :: m) st es fr h Q = zkH F (sel es js h.hid) (evs st fr as) f dst m st es fr h Q := by
  cases h with
  | mk k t lo hid =>
  rw [WD_cons]
  have key : ∀ n v h' e, drDo (runCl F (run F n)) st fr es (.mk k t lo hid) (.a (.call f as)) none (some js) = some (.mk v h' e) ↔ ∃ x vs h1, sel es js hid = some x ∧ evs st fr as = some vs ∧ runCl F (run F n) f vs (.mk k t k x) = some (v, h1) ∧ h' = .mk h1.next h1.tr lo hid ∧ e = .mk [(k, h1.next)] none := fun n v h' e => by
    have e0 : drDo (runCl F (run F n)) st fr es (.mk k t lo hid) (.a (.call f as)) none (some js) = ob (sel es js hid) (fun x => ob (ob (evs st fr as) (fun vs => runCl F (run F n) f vs (.mk k t k x))) (fun p => Hp.casesOn (motive := fun _ => Option DR) p.2 (fun n' t' _ _ => some (.mk p.1 (.mk n' t' lo hid) (.mk [(k, n')] none))))) := rfl
    rw [e0]
    constructor
    · intro h1
      obtain ⟨x, hx, h2⟩ := ob_some.1 h1
      obtain ⟨p, hp, h3⟩ := ob_some.1 h2
      obtain ⟨vs, hvs, h4⟩ := ob_some.1 hp
      obtain ⟨v1, ⟨n1, t1, l1, d1⟩⟩ := p
      cases h3
      exact ⟨x, vs, _, hx, hvs, h4, rfl, rfl⟩
    · rintro ⟨x, vs, ⟨n1, t1, l1, d1⟩, hx, hvs, h4, rfl, rfl⟩
      exact ob_some.2 ⟨x, hx, ob_some.2 ⟨(v, .mk n1 t1 l1 d1), ob_some.2 ⟨vs, hvs, h4⟩, rfl⟩⟩
  refine propext ⟨fun ⟨n, v, h', e, h1, h2⟩ => ?_, fun ⟨x, hx, vs, hvs, n, v, h1, h2, h3⟩ => ⟨n, v, _, _, (key n v _ _).2 ⟨x, vs, h1, hx, hvs, h2, rfl, rfl⟩, h3⟩⟩
  obtain ⟨x, vs, h3, hx, hvs, h4, rfl, rfl⟩ := (key n v h' e).1 h1
  exact ⟨x, hx, vs, hvs, n, v, h3, h4, h2⟩
theorem shr_nat {a : Nat} {n : Nat} : ((a : Int) / 2 ^ n) = ((a / 2 ^ n : Nat) : Int) := by
  rw [Int.natCast_ediv, Int.natCast_pow]; rfl
theorem toNat_4 {i : Nat} : (4 + (i : Int)).toNat = 4 + i := by omega
theorem toNat_9 {i : Nat} : (9 + (i : Int)).toNat = 9 + i := by omega
theorem toNat_i {i : Nat} : (i : Int).toNat = i := by omega
theorem dmod2 {a : Nat} : decide ((a : Int) % 2 = 1) = decide (a % 2 = 1) := decide_eq_decide.2 (by omega)
theorem tdiv_4 {a : Nat} : (a : Int).tdiv 4 = ((a / 4 : Nat) : Int) := rfl
theorem tdiv_5 {a : Nat} : (a : Int).tdiv 5 = ((a / 5 : Nat) : Int) := rfl
theorem rdB_field {x : Option AB} {off sz j : Nat} {row : List SV} {c : SV} (hr : rdB x off sz = some row) (hj : row[j]? = some c) : rdB x (off + j) 1 = some [c] := by
  cases x with
  | none => cases hr
  | some x =>
    cases x with
    | map va es => cases hr
    | arr cs ty =>
      rw [rdB_arr, ldrop_eq] at hr ⊢
      obtain ⟨h1, rfl⟩ := (ltake_some _).1 hr
      have hjs : j < sz := by
        rcases Nat.lt_or_ge j sz with h | h
        · exact h
        · rw [List.getElem?_eq_none (by simp; omega)] at hj; cases hj
      have hj2 : cs[off + j]? = some c := by
        rw [List.getElem?_take, if_pos hjs, List.getElem?_drop] at hj; exact hj
      have hl : off + j < cs.length := by
        rcases Nat.lt_or_ge (off + j) cs.length with h | h
        · exact h
        · rw [List.getElem?_eq_none h] at hj2; cases hj2
      refine (ltake_some _).2 ⟨by simp; omega, ?_⟩
      have e : cs.drop (off + j) = c :: cs.drop (off + j + 1) := by
        rw [List.drop_eq_getElem_cons hl]
        rw [List.getElem?_eq_getElem hl] at hj2
        rw [Option.some.inj hj2]
      rw [e]; rfl
theorem rd_two {a b : SV} {ty : TypeId} {c : Nat} {x y : Nat} (hc : c < 2) : rdB (some (.arr [si x, si y] ty)) (c * 1) 1 = some [si (if c = 0 then x else y)] := by
  have : c = 0 ∨ c = 1 := by omega
  rcases this with rfl | rfl <;> rfl
theorem wr_two {c x y z : Nat} (hc : c < 2) : loverAt (c * 1) [si z] [si x, si y] = some [si (if c = 0 then z else x), si (if c = 0 then y else z)] := by
  have : c = 0 ∨ c = 1 := by omega
  rcases this with rfl | rfl <;> rfl
theorem rd_head2 {c x y : Nat} {r : List SV} {ty : TypeId} (hc : c < 2) : rdB (some (.arr (si x :: si y :: r) ty)) (c * 1) 1 = some [si (if c = 0 then x else y)] := by
  have : c = 0 ∨ c = 1 := by omega
  rcases this with rfl | rfl <;> rfl
noncomputable def mmV (mx : Bool) (x y : Option AV) : Option AV := ob x (fun a => ob y (fun b => sInt a (fun k m => sInt b (fun k' n => oif (Nat.beq (ikn k) (ikn k')) (some (.s (.int k (oif (ile m n) (oif mx n m) (oif mx m n))))) none))))
theorem Lp_mm {mx : Bool} {x y : Od} : pop st fr (.mm mx x y) = mmV mx (ev st fr x) (ev st fr y) := rfl
theorem mmV_min {a b : Int} : mmV false (some (.s (.int .i64 a))) (some (.s (.int .i64 b))) = some (vi (if a ≤ b then a else b)) := by
  show some (AV.s (.int .i64 (oif (ile a b) a b))) = _
  rw [oif_if, ile_iff]; simp only [decide_eq_true_eq]
theorem mmV_max {a b : Int} : mmV true (some (.s (.int .i64 a))) (some (.s (.int .i64 b))) = some (vi (if a ≤ b then b else a)) := by
  show some (AV.s (.int .i64 (oif (ile a b) b a))) = _
  rw [oif_if, ile_iff]; simp only [decide_eq_true_eq]
end
end Go.Proofs.Ytaljcpoopmedmaa.Ev

/- The library's functions on strings, answered at once: by the kit's contracts. -/
import Derived.Test.YtmaaalpegnhjcaaDoorEnv
import Derived.Test.YtmaaalpegnhjcaaDoorLp
import Derived.Test.YtmaaalpegnhjcaaDoorShelf
import Derived.WalkSmall
import Derived.Lib.SmallJoins
namespace Go.Proofs.YtmaaalpegnhjcaaDoor.Ev
open Go Go.RowKit Go.Sort
set_option linter.unusedVariables false
set_option maxRecDepth 100000
noncomputable def asStr {β : Type} (v : AV) (f : List UInt8 → Option β) : Option β := svc none v (fun s => vStr s f)
noncomputable def args1 {β : Type} (vs : List AV) (f : AV → Option β) : Option β := List.casesOn (motive := fun _ => Option β) vs none (fun a r => List.casesOn (motive := fun _ => Option β) r (f a) (fun _ _ => none))
noncomputable def args2 {β : Type} (vs : List AV) (f : AV → AV → Option β) : Option β := List.casesOn (motive := fun _ => Option β) vs none (fun a r => args1 r (f a))
noncomputable def oneB {β : Type} (l : List UInt8) (f : UInt8 → Option β) : Option β := List.casesOn (motive := fun _ => Option β) l none (fun a r => List.casesOn (motive := fun _ => Option β) r (f a) (fun _ _ => none))
noncomputable def cutA (c : UInt8) (s : List UInt8) : AV := Option.casesOn (motive := fun _ => AV) (cut1 c s) (.tup [(false, [.str s]), (false, [.str []]), (false, [.bool false])]) (fun p => .tup [(false, [.str p.1]), (false, [.str p.2]), (false, [.bool true])])
noncomputable def splA (c : UInt8) (s : List UInt8) : AV := .s (.lst ((split1 c s).map (fun x => [SV.str x])))
noncomputable def atoA (s : List UInt8) : AV := Lib.NumEnd.casesOn (motive := fun _ => AV) (Lib.atoiAll s) (fun v => .tup [(false, [.int .i64 v]), (false, [.ifc false])]) (.tup [(false, [.int .i64 0]), (false, [.ifc true])]) (.tup [(false, [.int .i64 (Lib.atoiSat s)]), (false, [.ifc true])])
noncomputable def xCut (vs : List AV) (h : Hp) : R := args2 vs (fun a b => asStr a (fun s => asStr b (fun p => oneB p (fun c => oif (Nat.ble (llen s) 4000000000) (ok (cutA c s) h) none))))
noncomputable def xSpl (vs : List AV) (h : Hp) : R := args2 vs (fun a b => asStr a (fun s => asStr b (fun p => oneB p (fun c => oif (Nat.ble (llen s) 4000000000) (ok (splA c s) h) none))))
noncomputable def xAto (vs : List AV) (h : Hp) : R := args1 vs (fun a => asStr a (fun s => oif (Nat.ble (llen s) 4000000000) (ok (atoA s) h) none))
noncomputable def xIto (vs : List AV) (h : Hp) : R := args1 vs (fun a => sInt a (fun k n => oif (isI64 k) (Int.casesOn (motive := fun _ => R) n (fun m => oif (Nat.ble m 9223372036854775807) (ok (.s (.str (dig 19 m []))) h) none) (fun _ => none)) none))
noncomputable def libX (f : FuncId) (vs : List AV) (h : Hp) : R :=
  oif (Nat.beq f 6) (xCut vs h) (oif (Nat.beq f 10) (xSpl vs h) (oif (Nat.beq f 18) (xAto vs h) (oif (Nat.beq f 19) (xIto vs h) none)))
section
variable {β : Type}
theorem asStr_some {v : AV} {f : List UInt8 → Option β} {r : β} (h : asStr v f = some r) : ∃ l, v = .s (.str l) ∧ f l = some r := by
  obtain ⟨s, rfl, h1⟩ := svcN_some h
  obtain ⟨l, rfl, h2⟩ := vStr_some h1
  exact ⟨l, rfl, h2⟩
theorem args1_some {vs : List AV} {f : AV → Option β} {r : β} (h : args1 vs f = some r) : ∃ a, vs = [a] ∧ f a = some r := by
  match vs, h with
  | [a], h => exact ⟨a, rfl, h⟩
theorem args2_some {vs : List AV} {f : AV → AV → Option β} {r : β} (h : args2 vs f = some r) : ∃ a b, vs = [a, b] ∧ f a b = some r := by
  match vs, h with
  | a :: q, h =>
    obtain ⟨b, rfl, h2⟩ := args1_some (show args1 q (f a) = some r from h)
    exact ⟨a, b, rfl, h2⟩
theorem oneB_some {l : List UInt8} {f : UInt8 → Option β} {r : β} (h : oneB l f = some r) : ∃ c, l = [c] ∧ f c = some r := by
  match l, h with
  | [a], h => exact ⟨a, rfl, h⟩
end
section
variable {A : Nat → Int} {φ : Phi} {h : Hp} {w w' : World} {W : Nat → Prop}
/-- memory has grown, nothing else -/
theorem Rel.below (k : Rel A φ h w) (b : Below w.heap.size w w') : Step W φ φ h h w w' ∧ Rel A φ h w' := by
  refine ⟨⟨Abs.refl W k.wf, fun _ _ => rfl, fun _ _ e => e, fun _ _ e => .inl e, b.os, b.tape, b.output, b.size, fun p hp _ => b.block p hp, fun n L hn _ hL => by rw [k.dom n hn] at hL; cases hL⟩, ⟨k.wf, k.dom, fun n x hx => ?_, k.inj, fun p cs e => ?_, k.sep⟩⟩
  · refine (k.blk n x hx).world (fun L hL => b.block _ ?_)
    obtain ⟨L', hL', hb⟩ := (k.blk n x hx).some_loc
    rw [hL'] at hL
    cases hL
    exact hb
  · obtain ⟨ty', h3⟩ := k.con p cs e
    exact ⟨ty', by rw [b.block p (k.conLt e)]; exact h3⟩
theorem Rel.noNew (k : Rel A φ h w) : φ.k w.heap.size = none := by
  cases e : φ.k w.heap.size with
  | none => rfl
  | some cs => exact absurd (k.conLt e) (by omega)
theorem below_grow (w : World) (n : Nat) (os : Array Obj) : Below w.heap.size w (grow (w.drewN n) os) :=
  ⟨rfl, rfl, rfl, by show w.heap.size ≤ (w.heap ++ os).size; rw [Array.size_append]; omega, fun k hk => by
    show (w.heap ++ os)[k]? = _
    rw [Array.getElem?_append_left hk]⟩
theorem Rel.cell (k : Rel A φ h w) {g : Nat} {cs : Array Value} (e : φ.k g = some cs) {v : Value} (hv : cs[0]? = some v) : w.cell? ⟨g, 0, none⟩ = some v := by
  obtain ⟨ty, h3⟩ := k.con g cs e
  unfold World.cell?
  simp only [h3]
  exact hv
theorem Rel.var (k : Rel A φ h w) {P : Program} {n : String} {g : Nat} (hg : P.globalNamed n = some g) {cs : Array Value} (e : φ.k g = some cs) : w.var? P n = some cs := by
  obtain ⟨ty, h3⟩ := k.con g cs e
  unfold World.var?
  rw [hg]
  simp only [Option.bind_some, h3]
theorem bsz (l : List UInt8) : (⟨l.toArray⟩ : ByteArray).size = l.length := by simp [ByteArray.size]
theorem rows_cD {k : Nat → Option (Array Value)} {b : Nat} {ps : List ByteArray} {l : List (List UInt8)} (hl : l = ps.map (·.data.toList)) (hk : k b = some (ps.map Value.string).toArray) :
    cD A k (.lst (l.map (fun x => [SV.str x]))) (.slice (some ⟨b, 0, none⟩) l.length l.length) := by
  subst hl
  have row : ∀ (i : Nat) (r : List SV), ((ps.map (·.data.toList)).map (fun x => [SV.str x]))[i]? = some r → ∃ p, ps[i]? = some p ∧ r = [.str p.data.toList] := fun i r h => by
    rw [List.getElem?_map, List.getElem?_map] at h
    obtain ⟨q, hq, rfl⟩ := Option.map_eq_some_iff.1 h
    obtain ⟨p, hp, rfl⟩ := Option.map_eq_some_iff.1 hq
    exact ⟨p, hp, rfl⟩
  have h := cD.lst (A := A) (k := k) ((ps.map (·.data.toList)).map (fun x => [SV.str x])) b 0 (ps.map (·.data.toList)).length 1 _ (fun i j => ((ps.map Value.string).toArray[0 + i * 1 + j]?).getD (.bool false)) hk (by simp) (fun i r h => by
      obtain ⟨p, _, rfl⟩ := row i r h; rfl) (fun i j r y h1 h2 => ?_) (fun i j r y h1 h2 => ?_)
  · rw [List.length_map] at h; exact h
  · obtain ⟨p, hp, rfl⟩ := row i r h1
    match j, h2 with
    | 0, h2 =>
      have e : (ps.map Value.string).toArray[0 + i * 1 + 0]? = some (.string p) := by simp [hp]
      rw [e]; rfl
  · obtain ⟨p, hp, rfl⟩ := row i r h1
    match j, h2 with
    | 0, h2 =>
      cases h2
      have e : (ps.map Value.string).toArray[0 + i * 1 + 0]? = some (.string p) := by simp [hp]
      simp only [e, Option.getD_some]
      exact .str _
end
def ExtOk (P : Program) (A : Nat → Int) (f : FuncId) (vs : List AV) (h : Hp) (v : AV) (h' : Hp) : Prop :=
  FnOk P f ∧ (WF h → Abs (fun n => h.lo ≤ n) h h') ∧ ∀ φ w (args : Array Value), Rel A φ h w → All2 (cV A φ) vs args.toList →
    Calls P f args w (fun e w' => ∃ rv φ', e = .returned rv ∧ Step (fun n => h.lo ≤ n) φ φ' h h' w w' ∧ Rel A φ' h' w' ∧ cV A φ' v rv)
section
variable {A : Nat → Int} {vs : List AV} {h h' : Hp} {v : AV}
theorem xCut_ok (hx : xCut vs h = some (v, h')) : ExtOk Tryd.prog A 6 vs h v h' := by
  obtain ⟨a, b, rfl, h1⟩ := args2_some hx
  obtain ⟨s, rfl, h2⟩ := asStr_some h1
  obtain ⟨p, rfl, h3⟩ := asStr_some h2
  obtain ⟨c, rfl, h4⟩ := oneB_some h3
  obtain ⟨h5, h6⟩ := oif_some.1 h4
  cases h6
  have hs : s.length ≤ 4000000000 := by have := Nat.le_of_ble_eq_true h5; rw [llen_eq] at this; exact this
  refine ⟨⟨_, Tryd.func6, by kernel_rfl, by kernel_rfl⟩, fun k => Abs.refl _ k, fun φ w args rel ha => ?_⟩
  obtain ⟨l⟩ := args
  simp only at ha
  cases ha with
  | @cons _ x _ l1 hx1 h7 =>
    cases h7 with
    | @cons _ y _ l2 hy1 h8 =>
      cases h8
      have e1 : x = .string ⟨s.toArray⟩ := hx1
      have e2 : y = .string ⟨[c].toArray⟩ := hy1
      subst e1 e2
      obtain ⟨⟨m, cs, k1, k2⟩, _⟩ := φ.g.ext
      refine Calls.mono (Tryd.strings_Cut ⟨s.toArray⟩ ⟨[c].toArray⟩ m w (by rw [bsz]; omega) (rel.cell k1 k2)) ?_
      rintro e w' ⟨rfl, n, rfl⟩
      obtain ⟨st, r⟩ := rel.below (W := fun n => h.lo ≤ n) (below_drewN (Below.refl w.heap.size w) n)
      refine ⟨_, φ, rfl, st, r, ?_⟩
      have e3 : Lib.cut (ByteArray.mk s.toArray).data.toList (ByteArray.mk [c].toArray).data.toList = _ := cut1_lib c s
      rw [e3]
      unfold cutA
      cases cut1 c s with
      | none => exact ⟨[_, _, _], rfl, .cons ⟨_, rfl, rfl⟩ (.cons ⟨_, rfl, rfl⟩ (.cons ⟨_, rfl, rfl⟩ .nil))⟩
      | some p => exact ⟨[_, _, _], rfl, .cons ⟨_, rfl, rfl⟩ (.cons ⟨_, rfl, rfl⟩ (.cons ⟨_, rfl, rfl⟩ .nil))⟩
theorem xSpl_ok (hx : xSpl vs h = some (v, h')) : ExtOk Tryd.prog A 10 vs h v h' := by
  obtain ⟨a, b, rfl, h1⟩ := args2_some hx
  obtain ⟨s, rfl, h2⟩ := asStr_some h1
  obtain ⟨p, rfl, h3⟩ := asStr_some h2
  obtain ⟨c, rfl, h4⟩ := oneB_some h3
  obtain ⟨h5, h6⟩ := oif_some.1 h4
  cases h6
  have hs : s.length ≤ 4000000000 := by have := Nat.le_of_ble_eq_true h5; rw [llen_eq] at this; exact this
  refine ⟨⟨_, Tryd.func10, by kernel_rfl, by kernel_rfl⟩, fun k => Abs.refl _ k, fun φ w args rel ha => ?_⟩
  obtain ⟨l⟩ := args
  simp only at ha
  cases ha with
  | @cons _ x _ l1 hx1 h7 =>
    cases h7 with
    | @cons _ y _ l2 hy1 h8 =>
      cases h8
      have e1 : x = .string ⟨s.toArray⟩ := hx1
      have e2 : y = .string ⟨[c].toArray⟩ := hy1
      subst e1 e2
      obtain ⟨⟨m, cs, k1, k2⟩, _⟩ := φ.g.ext
      refine Calls.mono (Tryd.strings_Split ⟨s.toArray⟩ ⟨[c].toArray⟩ m w (by rw [bsz]; omega) (rel.cell k1 k2) (by rw [bsz]; simp)) ?_
      rintro e w' ⟨rfl, rfl⟩
      obtain ⟨j1, j2⟩ := split1_lib c s.length s (Nat.le_refl _)
      have e4 : split1 c s = (Lib.splitB ⟨[c].toArray⟩ 0 (Lib.countB ⟨s.toArray⟩ ⟨[c].toArray⟩) ⟨s.toArray⟩).map (·.data.toList) := by
        rw [Lib.splitB_data]; exact j1.symm
      have e5 : Lib.countB ⟨s.toArray⟩ ⟨[c].toArray⟩ + 1 = (split1 c s).length := j2.symm
      obtain ⟨st, r⟩ := rel.cst (W := fun n => h.lo ≤ n) (Grown.alloc w _ _)
      rw [e5]
      exact ⟨_, _, rfl, st, r, rows_cD e4 (Phi.cst_same _ _ _ (rel.noNew))⟩
theorem xAto_ok (hx : xAto vs h = some (v, h')) : ExtOk Tryd.prog A 18 vs h v h' := by
  obtain ⟨a, rfl, h1⟩ := args1_some hx
  obtain ⟨s, rfl, h2⟩ := asStr_some h1
  obtain ⟨h5, h6⟩ := oif_some.1 h2
  cases h6
  have hs : s.length ≤ 4000000000 := by have := Nat.le_of_ble_eq_true h5; rw [llen_eq] at this; exact this
  refine ⟨⟨_, Tryd.func18, by kernel_rfl, by kernel_rfl⟩, fun k => Abs.refl _ k, fun φ w args rel ha => ?_⟩
  obtain ⟨l⟩ := args
  simp only at ha
  cases ha with
  | @cons _ x _ l1 hx1 h7 =>
    cases h7
    have e1 : x = .string ⟨s.toArray⟩ := hx1
    subst e1
    obtain ⟨_, _, ⟨c, u, k1, k2, k3⟩, ⟨d, q, k4, k5, k6⟩⟩ := φ.g.ext
    unfold atoA
    cases e : Lib.atoiAll s with
    | ok n =>
      refine Calls.mono (Tryd.strconv_Atoi_ok ⟨s.toArray⟩ (by rw [bsz]; omega) n e w) ?_
      rintro e w' ⟨rfl, hw⟩
      have b : Below w.heap.size w w' := by
        rcases hw with rfl | ⟨t, rfl⟩
        · exact Below.refl _ _
        · exact Joins.below_bytesWorld _ w _ t (Nat.le_refl _)
      obtain ⟨st, r⟩ := rel.below (W := fun n => h.lo ≤ n) b
      exact ⟨_, φ, rfl, st, r, [_, _], rfl, .cons ⟨_, rfl, rfl⟩ (.cons ⟨_, rfl, .inr ⟨rfl, rfl⟩⟩ .nil)⟩
    | range =>
      refine Calls.mono (Tryd.strconv_Atoi_range ⟨s.toArray⟩ (by rw [bsz]; omega) e q w (rel.cell k4 k5) k6) ?_
      rintro e w' ⟨N, rfl, _, _, b⟩
      obtain ⟨st, r⟩ := rel.below (W := fun n => h.lo ≤ n) b
      exact ⟨_, φ, rfl, st, r, [_, _], rfl, .cons ⟨_, rfl, rfl⟩ (.cons ⟨_, rfl, .inl ⟨rfl, _, _, rfl⟩⟩ .nil)⟩
    | _ =>
      have c := Any.strconv_Atoi_syntax Tryd.laysC172 ⟨s.toArray⟩ (by rw [bsz]; omega) e u w (rel.cell k1 k2) k3
      refine Calls.mono c ?_
      rintro e w' ⟨N, rfl, _, _, b⟩
      obtain ⟨st, r⟩ := rel.below (W := fun n => h.lo ≤ n) b
      exact ⟨_, φ, rfl, st, r, [_, _], rfl, .cons ⟨_, rfl, rfl⟩ (.cons ⟨_, rfl, .inl ⟨rfl, _, _, rfl⟩⟩ .nil)⟩
theorem xIto_ok (hx : xIto vs h = some (v, h')) : ExtOk Tryd.prog A 19 vs h v h' := by
  obtain ⟨a, rfl, h1⟩ := args1_some hx
  obtain ⟨k, n, rfl, h2⟩ := sInt_some h1
  obtain ⟨h3, h4⟩ := oif_some.1 h2
  obtain rfl : k = .i64 := by cases k <;> first | rfl | cases h3
  cases n with
  | negSucc m => cases h4
  | ofNat m =>
    obtain ⟨h5, h6⟩ := oif_some.1 (show oif (Nat.ble m 9223372036854775807) (ok (.s (.str (dig 19 m []))) h) none = some (v, h') from h4)
    cases h6
    have hm : m ≤ 9223372036854775807 := Nat.le_of_ble_eq_true h5
    refine ⟨⟨_, Tryd.func19, by kernel_rfl, by kernel_rfl⟩, fun k => Abs.refl _ k, fun φ w args rel ha => ?_⟩
    obtain ⟨l⟩ := args
    simp only at ha
    cases ha with
    | @cons _ x _ l1 hx1 h7 =>
      cases h7
      have e1 : x = .int .i64 (m : Int) := hx1
      subst e1
      obtain ⟨_, k1, _⟩ := φ.g.ext
      refine Calls.mono (Tryd.strconv_Itoa (m : Int) (by omega) (by omega) w (rel.var (by kernel_rfl) k1)) ?_
      rintro e w' ⟨rfl, n, os, rfl⟩
      obtain ⟨st, r⟩ := rel.below (W := fun n => h.lo ≤ n) (below_grow w n os)
      refine ⟨_, φ, rfl, st, r, ?_⟩
      have e2 : Lib.itoa (m : Int) = dig 19 m [] := by
        unfold Lib.itoa
        rw [if_neg (by omega), Int.toNat_natCast, dig_eq 19 m [] (by omega) (by omega), List.append_nil]
      rw [e2]
      rfl
theorem libX_ok {f : FuncId} (hx : libX f vs h = some (v, h')) : ExtOk Tryd.prog A f vs h v h' := by
  unfold libX at hx
  rw [oif_if] at hx
  split at hx
  · rename_i e; rw [Nat.eq_of_beq_eq_true e]; exact xCut_ok hx
  rw [oif_if] at hx
  split at hx
  · rename_i e; rw [Nat.eq_of_beq_eq_true e]; exact xSpl_ok hx
  rw [oif_if] at hx
  split at hx
  · rename_i e; rw [Nat.eq_of_beq_eq_true e]; exact xAto_ok hx
  rw [oif_if] at hx
  split at hx
  · rename_i e; rw [Nat.eq_of_beq_eq_true e]; exact xIto_ok hx
  cases hx
/-- the functions, the library's answered at once ahead of what is answered besides -/
noncomputable def withL (F : Fns) : Fns := Fns.casesOn (motive := fun _ => Fns) F (fun T X => .mk T (fun f vs h => Option.rec (motive := fun _ => R) (X f vs h) (fun r => some r) (libX f vs h)))
theorem withL_env {T : Tr TI} {F : Fns} (env : Env Tryd.prog A T F) : Env Tryd.prog A T (withL F) := by
  cases F with
  | mk T0 X =>
    refine ⟨env.tys, env.mix, env.fn, fun f vs h v h' hx => ?_⟩
    have hx' : Option.rec (motive := fun _ => R) (X f vs h) (fun r => some r) (libX f vs h) = some (v, h') := hx
    cases e : libX f vs h with
    | none => rw [e] at hx'; exact env.ext f vs h v h' hx'
    | some r =>
      rw [e] at hx'
      cases hx'
      exact libX_ok e
end
end Go.Proofs.YtmaaalpegnhjcaaDoor.Ev

/- The interpreter set to this program, some functions (a range over a function; loads in no order) among what it answers. -/
import Derived.Test.YtmaaalpegnhjcaaDoorBack3
import Derived.Test.YtmaaalpegnhjcaaDoorEnv
namespace Go.Proofs.YtmaaalpegnhjcaaDoor.Ev
open Go Go.RowKit
set_option linter.unusedVariables false
set_option maxRecDepth 100000
def rdCodeB (na : Nat) (acc : List Nat) : Code → List Nat
  | .seq a b => rdCodeB na (rdCodeB na acc a) b
  | .block _ b => rdCodeB na acc b
  | .loop b => rdCodeB na acc b
  | .rangeFunc g _ _ b => rdCode na (rdO na [] acc [g]) b
  | c => rdCode na acc c
inductive IFB where
  | mk (ib : IB) (nargs nslots : Nat) (res : List IR)
noncomputable def compB (T : Tr TI) (fl : Bool) (f : Func) : Option IFB :=
  match f.body with
  | none => none
  | some b =>
    match f.params.size + f.nfree with
    | nargs => match rdRes nargs (rdCodeB nargs [] b) f.results.toList with
      | acc => match cB T fl (upTo 0 nargs ++ acc) f.ntmps b, cRes T (upTo 0 nargs ++ acc) f.results.toList with
        | some c, some r => bif Nat.ble nargs f.ntmps then some (.mk c nargs (llen acc) r) else none
        | _, _ => none
noncomputable def TB (c : FuncId) (fl : Bool) : Option IFB := ob (Tryd.prog.funcs[c]?) (compB tys fl)
noncomputable def XB1 (B : FuncId → Bool) (F0 : Fns) (c : FuncId) (fl : Bool) (vs : List AV) (h : Hp) : R :=
  ob (TB c fl) (fun q => IFB.casesOn (motive := fun _ => R) q (fun ib nargs nslots res => oif (Nat.beq (llen vs) nargs) (ob (runB F0 5000 B 2000 ib (.mk (lapp vs (undefs nslots)) h)) (fun p =>
    Ex.casesOn (motive := fun _ => R) p.1 (result p.2 res) (fun _ => none) (result p.2 res))) none))
noncomputable def XB (B : FuncId → Bool) (F0 : Fns) (specs : List (FuncId × Bool)) (f : FuncId) (vs : List AV) (h : Hp) : R :=
  List.rec (motive := fun _ => R) none (fun e _ ih => oif (Nat.beq f e.1) (XB1 B F0 e.1 e.2 vs h) ih) specs
theorem XB_some {B : FuncId → Bool} {F0 : Fns} {f : FuncId} {vs : List AV} {h : Hp} {r : AV × Hp} : ∀ {specs : List (FuncId × Bool)}, XB B F0 specs f vs h = some r → ∃ fl, XB1 B F0 f fl vs h = some r
  | [], h => by cases h
  | e :: l, h => by
    have h' : oif (Nat.beq f e.1) (XB1 B F0 e.1 e.2 vs _) (XB B F0 l f vs _) = some r := h
    rw [oif_if] at h'
    split at h'
    · rename_i h1
      rw [nbeq] at h1
      subst h1
      exact ⟨e.2, h'⟩
    · exact XB_some h'
noncomputable def FX (B : FuncId → Bool) (specs : List (FuncId × Bool)) (ps : List ((Nat × Int) × Sx)) : Fns := .mk T (fun f vs h => Option.rec (motive := fun _ => R) (XB B (F ps) specs f vs h) (fun v => ok v h) (picks 4 ps f vs))
theorem envX {A : Nat → Int} {B : FuncId → Bool} (hB : ∀ f, B f = true → Iter Tryd.prog f) {specs : List (FuncId × Bool)} {ps : List ((Nat × Int) × Sx)} (h0 : ∀ i m r, ((i, m), r) ∈ ps → In64 (A i) ∧ 0 < m ∧ m ≤ 9223372036854775807 ∧ pick (A i) m = den A r) : Env Tryd.prog A tys (FX B specs ps) where
  tys := tysOk
  mix := (env h0).mix
  fn := (env h0).fn
  ext := fun f vs h v h' hx => by
    have e0 := env h0
    cases hp : picks 4 ps f vs with
    | some u =>
      have hx' : Option.rec (motive := fun _ => R) (XB B (F ps) specs f vs h) (fun v => ok v h) (picks 4 ps f vs) = some (v, h') := hx
      rw [hp] at hx'
      exact e0.ext f vs h v h' (show ob (picks 4 ps f vs) (fun v => ok v h) = some (v, h') by rw [hp]; exact hx')
    | none =>
      have hx' : Option.rec (motive := fun _ => R) (XB B (F ps) specs f vs h) (fun v => ok v h) (picks 4 ps f vs) = some (v, h') := hx
      rw [hp] at hx'
      obtain ⟨fl, h1⟩ := XB_some (show XB B (F ps) specs f vs h = some (v, h') from hx')
      obtain ⟨q, hq, h2⟩ := ob_some.1 h1
      obtain ⟨fn, hfn, hcomp⟩ := ob_some.1 (show ob (Tryd.prog.funcs[f]?) (compB tys fl) = some q from hq)
      unfold compB at hcomp
      split at hcomp
      · cases hcomp
      · rename_i b hb
        dsimp only at hcomp
        split at hcomp
        · rename_i c r hc hr
          cases hna : Nat.ble (fn.params.size + fn.nfree) fn.ntmps with
          | false => rw [hna] at hcomp; cases hcomp
          | true =>
            rw [hna] at hcomp
            cases hcomp
            obtain ⟨hl, h3⟩ := oif_some.1 h2
            obtain ⟨p, hrun, h4⟩ := ob_some.1 h3
            obtain ⟨e, s⟩ := p
            rw [nbeq, llen_eq] at hl
            rw [lapp_eq] at hrun
            have hres : (e = .normal ∨ e = .ret) ∧ result s r = some (v, h') := by
              cases e with
              | normal => exact ⟨.inl rfl, h4⟩
              | ret => exact ⟨.inr rfl, h4⟩
              | exit id => cases h4
            refine ⟨⟨fn, hfn, by rw [hb]; rfl, ?_⟩, fun k => ?_, callB e0 hB hfn hb (Nat.le_of_ble_eq_true hna) hc hr hl hrun hres.1 hres.2⟩
            · have := List.all_eq_true.1 names fn (by
                rw [← Array.getElem?_toList] at hfn
                exact List.mem_of_getElem? hfn)
              simpa using this
            · obtain ⟨fr', h5, rfl, a⟩ := runB_abs (fun f vs h v h' hx => (e0.ext f vs h v h' hx).2.1) _ _ _ _ _ _ hrun k
              obtain ⟨rfl, _⟩ := result_some hres.2
              exact a
        · cases hcomp
end Go.Proofs.YtmaaalpegnhjcaaDoor.Ev

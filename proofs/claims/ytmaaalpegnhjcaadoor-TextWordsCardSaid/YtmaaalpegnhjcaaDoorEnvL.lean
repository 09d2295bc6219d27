/- Functions in whose regions loads stand in no order, run by the kernel ahead of what is answered besides. -/
import Derived.Test.YtmaaalpegnhjcaaDoorEnvX
import Derived.Test.YtmaaalpegnhjcaaDoorLx
namespace Go.Proofs.YtmaaalpegnhjcaaDoor.Ev
open Go Go.RowKit
set_option linter.unusedVariables false
set_option maxRecDepth 100000
def noB (_ : FuncId) : Bool := false
theorem noB_ok : ∀ f, noB f = true → Iter Tryd.prog f := fun f hf => by cases hf
noncomputable def withX (specs : List (FuncId × Bool)) (F : Fns) : Fns := Fns.casesOn (motive := fun _ => Fns) F (fun T X => .mk T (fun f vs h => Option.rec (motive := fun _ => R) (X f vs h) (fun r => some r) (XB noB (.mk T X) specs f vs h)))
theorem withX_env {A : Nat → Int} {specs : List (FuncId × Bool)} {F : Fns} (e0 : Env Tryd.prog A tys F) : Env Tryd.prog A tys (withX specs F) := by
  cases F with
  | mk T0 X =>
  refine ⟨e0.tys, e0.mix, e0.fn, fun f vs h v h' hx => ?_⟩
  have hx' : Option.rec (motive := fun _ => R) (X f vs h) (fun r => some r) (XB noB (.mk T0 X) specs f vs h) = some (v, h') := hx
  cases hp : XB noB (.mk T0 X) specs f vs h with
  | none => rw [hp] at hx'; exact e0.ext f vs h v h' hx'
  | some u =>
    rw [hp] at hx'
    cases hx'
    obtain ⟨fl, h1⟩ := XB_some hp
    obtain ⟨q, hq, h2⟩ := ob_some.1 h1
    obtain ⟨fn, hfn, hcomp⟩ := ob_some.1 (show ob (Tryd.prog.funcs[f]?) (compB tys fl) = some q from hq)
    unfold compB at hcomp
    split at hcomp
    · cases hcomp
    · rename_i b hb
      dsimp only at hcomp
      split at hcomp
      · rename_i c r hc hr
        cases hna : Nat.ble (fn.params.size + fn.nfree) fn.ntmps with
        | false => rw [hna] at hcomp; cases hcomp
        | true =>
          rw [hna] at hcomp
          cases hcomp
          obtain ⟨hl, h3⟩ := oif_some.1 h2
          obtain ⟨p, hrun, h4⟩ := ob_some.1 h3
          obtain ⟨e, s⟩ := p
          rw [nbeq, llen_eq] at hl
          rw [lapp_eq] at hrun
          have hres : (e = .normal ∨ e = .ret) ∧ result s r = some (v, h') := by
            cases e with
            | normal => exact ⟨.inl rfl, h4⟩
            | ret => exact ⟨.inr rfl, h4⟩
            | exit id => cases h4
          refine ⟨⟨fn, hfn, by rw [hb]; rfl, ?_⟩, fun k => ?_, callB e0 noB_ok hfn hb (Nat.le_of_ble_eq_true hna) hc hr hl hrun hres.1 hres.2⟩
          · have := List.all_eq_true.1 names fn (by
              rw [← Array.getElem?_toList] at hfn
              exact List.mem_of_getElem? hfn)
            simpa using this
          · obtain ⟨fr', h5, rfl, a⟩ := runB_abs (fun f vs h v h' hx => (e0.ext f vs h v h' hx).2.1) _ _ _ _ _ _ hrun k
            obtain ⟨rfl, _⟩ := result_some hres.2
            exact a
      · cases hcomp
/-- the readers of lines -/
noncomputable def FR (ps : List ((Nat × Int) × Sx)) : Fns := withX [(7, true)] (withX [(14, true)] (withX [(21, true)] (withL (F ps))))
end Go.Proofs.YtmaaalpegnhjcaaDoor.Ev

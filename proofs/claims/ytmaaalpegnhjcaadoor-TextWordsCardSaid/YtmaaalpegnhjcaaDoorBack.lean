/- A range over a function, in whose rounds the interpreter runs the body: what a round is, in the fence. No program in sight. -/
import Derived.Test.YtmaaalpegnhjcaaDoorRun
import Derived.RangeFuncLeaves
import Derived.RangeFuncFrom
import Derived.RangeFuncCalls
import Derived.LoopNIn
import Derived.OrdersIn
namespace Go.Proofs.YtmaaalpegnhjcaaDoor.Ev
open Go Go.RowKit
set_option linter.unusedVariables false
set_option linter.unusedSimpArgs false
def notDefer : Op → Bool
  | .defer _ => false
  | _ => true
theorem notDefer_spec {o : Op} (h : notDefer o = true) : ∀ c, o ≠ .defer c := by
  rintro c rfl; cases h
section
variable {P : Program}
theorem wpIn_of_wp {o : Oper} {a : Act} {w : World} {K : Act → World → Prop} {Q : Exit → Act → World → Prop} {l n : Nat} (hd : ∀ c, o.op ≠ .defer c) (h : o.wp P a w K Q) : o.wpIn (Fence.wide.inRound l) n P a w K Q := by
  refine ⟨fun _ _ => trivial, ?_⟩
  have e : o.semAt (Fence.wide.inRound l).round a.eval = execOp a.eval o := Oper.semAt_some l a.eval o hd
  rw [e]
  unfold Oper.wp at h
  cases hr : (execOp a.eval o).run P w with
  | ok x w' =>
    rw [hr] at h
    cases x with
    | value v => exact h
    | skip => exact h
    | defer d => exact h
    | enter f args => exact ⟨fun e => (by cases e), CallsIn.inRound l (callsIn_wide.2 h)⟩
    | row r args =>
      refine ⟨fun e => (by cases e), fun c cs _ => ?_⟩
      obtain ⟨v, w'', h1, h2⟩ := (show Rows P r args w' _ from h) c cs
      exact ⟨v, w'', h1, stepsIn_wide.2 h2⟩
    | _ => exact (show False from h).elim
  | halt x w' =>
    rw [hr] at h
    cases x <;> exact h
theorem wpOpsIn_of_wpOps {ops : Array Oper} {Q : Exit → Act → World → Prop} {l n : Nat} (hlo : ¬ LetsOut Q) (hd : ∀ (i : Nat) (o : Oper), ops[i]? = some o → ∀ c, o.op ≠ .defer c) :
    ∀ (is : List Nat) (a : Act) (w : World), wpOps P ops Q is a w → wpOpsIn (Fence.wide.inRound l) n P ops Q is a w
  | [], a, w, h => h
  | i :: rest, a, w, h => by
    simp only [wpOps] at h
    simp only [wpOpsIn]
    cases ho : ops[i]? with
    | none => rw [ho] at h; exact wpOpsIn_of_wpOps hlo hd rest a w h
    | some o =>
      rw [ho] at h
      simp only at h ⊢
      split at h
      · rename_i hw
        rw [if_pos hw]
        rcases h with h | ⟨_, h⟩
        · exact Oper.wpIn_mono (fun a w h => wpOpsIn_of_wpOps hlo hd rest a w h) (wpIn_of_wp (hd i o ho) h)
        · exact absurd h hlo
      · rename_i hw
        rw [if_neg hw]
        exact ⟨fun _ _ => trivial, wpOpsIn_of_wpOps hlo hd rest _ w h⟩
end
/-- code that may stand in a round: nothing that draws, defers, or goes over a function -/
def flatC : Code → Bool
  | .skip => true
  | .region _ ops false => ops.toList.all (fun o => notDefer o.op)
  | .seq a b => flatC a && flatC b
  | .cond _ a b => flatC a && flatC b
  | .block _ b => flatC b
  | .loop b => flatC b
  | .exit _ => true
  | .ret => true
  | _ => false
section
variable {P : Program} {A : Nat → Int} {T : Tr TI} {F : Fns}
def SoundIn (P : Program) (A : Nat → Int) (T : Tr TI) (F : Fns) (l m n : Nat) : Prop :=
  ∀ ic fr h e s, run F n ic (.mk fr h) = some (e, s) → ∀ code π nt, cCode T [] π nt code = some ic → flatC code = true → ∀ φ a w, Rel A φ h w → FrR A φ π fr a → nt ≤ a.tmps.size → ∀ Q, Post A π φ h w a e s Q → code.wpIn (Fence.wide.inRound l) m P Q a w
def SoundInL (P : Program) (A : Nat → Int) (T : Tr TI) (F : Fns) (l m n : Nat) : Prop :=
  ∀ ib fr h e s, run F n (.loop ib) (.mk fr h) = some (e, s) → ∀ code π nt, cCode T [] π nt code = some ib → flatC code = true → ∀ φ a w, Rel A φ h w → FrR A φ π fr a → nt ≤ a.tmps.size → ∀ Q, Post A π φ h w a e s Q → Code.roundsIn (Fence.wide.inRound l) m P code Q n a w
theorem soundIn_all (env : Env P A T F) (l m : Nat) : ∀ n, SoundIn P A T F l m n ∧ SoundInL P A T F l m n := by
  intro n
  induction n with
  | zero => exact ⟨fun ic fr h e s hr => (by cases hr), fun ic fr h e s hr => (by cases hr)⟩
  | succ n ih =>
    obtain ⟨ih1, ih2⟩ := ih
    have hb : ∀ f, (Fence.wide.inRound l).fn f := fun _ => trivial
    have hcl := cl_of_sound env (sound_all env n).1
    have hL : SoundInL P A T F l m (n + 1) := by
      intro ib fr h e s hr code π nt hc hfl φ a w rel hf hnt Q hQ
      obtain ⟨p, h1, h2⟩ := ob_some.1 (show ob (run F n ib (.mk fr h)) (fun p => Ex.casesOn (motive := fun _ => Option (Ex × St)) p.1 (run F n (.loop ib) p.2) (fun _ => some p) (some p)) = some (e, s) from hr)
      obtain ⟨e1, s1⟩ := p
      rw [roundsIn_succ]
      refine ih1 _ _ _ _ _ h1 code π nt hc hfl φ a w rel hf hnt _ ?_
      intro φ' fr' h' a' w' es st r1 f1 d1 z1
      subst es
      cases e1 with
      | normal => exact ih2 _ _ _ _ _ h2 code π nt hc hfl φ' a' w' r1 f1 (by rw [z1]; exact hnt) Q (hQ.trans st d1 z1)
      | exit id => cases h2; exact hQ φ' fr' h' a' w' rfl st r1 f1 d1 z1
      | ret => cases h2; exact hQ φ' fr' h' a' w' rfl st r1 f1 d1 z1
    refine ⟨?_, hL⟩
    intro ic fr h e s hr code π nt hc hfl φ a w rel hf hnt Q hQ
    cases code with
    | skip =>
      cases hc
      cases hr
      exact wpIn_skip (hQ φ fr h a w rfl (Step.refl _ rel rfl rfl rfl rfl) rel hf rfl rfl)
    | region id ops draw =>
      cases draw with
      | false =>
        obtain ⟨k, hl, e⟩ := Option.map_eq_some_iff.1 (show (cRegion T π nt [] 0 ops.toList).map .region = some ic from by have hc' : (bif hasC [] ops.toList then (cRegionC T [] π nt none [] ops.toList).map IC.region else (cRegion T π nt [] 0 ops.toList).map IC.region) = some ic := hc; rw [hasC_nil] at hc'; exact hc')
        subst e
        obtain ⟨s1, h1, h2⟩ := ob_some.1 (show ob (iops (runCl F (run F n)) k [] fr h) (fun s => some (.normal, s)) = some (e, s) from hr)
        cases h2
        refine wpIn_mono (Q := fun e a' w' => e = .normal ∧ Q .normal a' w') (wpIn_region (wpOpsIn_of_wpOps (by rintro ⟨_, _, h, _⟩; cases h) (fun i o ho => notDefer_spec (List.all_eq_true.1 hfl o (by rw [← Array.getElem?_toList] at ho; exact List.mem_of_getElem? ho))) _ a w ?_)) (fun e a' w' h => by obtain ⟨rfl, h⟩ := h; exact h)
        have hrange : List.range ops.size = List.range' 0 ops.toList.length := by rw [List.range_eq_range']; simp
        rw [hrange]
        refine iops_sound env.tys hcl ops.toList 0 k [] fr h _ φ a w (fun j o hj => by rw [Nat.zero_add, ← Array.getElem?_toList]; exact hj) (by simp) hl h1 rel hf (fun t i v hi => by cases hi) hnt (fun j d hj => by omega) ?_
        intro φ' fr' h' a' w' es st r1 f1 d1 z1
        exact ⟨rfl, hQ φ' fr' h' a' w' es st r1 f1 d1 z1⟩
      | true => cases hfl
    | seq x y =>
      obtain ⟨hx', hy'⟩ : flatC x = true ∧ flatC y = true := by simpa only [flatC, Bool.and_eq_true] using hfl
      simp only [cCode] at hc
      split at hc
      · rename_i cx cy hx hy
        cases hc
        obtain ⟨p, h1, h2⟩ := ob_some.1 (show ob (run F n cx (.mk fr h)) (fun p => Ex.casesOn (motive := fun _ => Option (Ex × St)) p.1 (run F n cy p.2) (fun _ => some p) (some p)) = some (e, s) from hr)
        obtain ⟨e1, s1⟩ := p
        refine wpIn_seq (ih1 _ _ _ _ _ h1 x π nt hx hx' φ a w rel hf hnt _ ?_)
        intro φ' fr' h' a' w' es st r1 f1 d1 z1
        subst es
        cases e1 with
        | normal => exact ih1 _ _ _ _ _ h2 y π nt hy hy' φ' a' w' r1 f1 (by rw [z1]; exact hnt) Q (hQ.trans st d1 z1)
        | exit id => cases h2; exact hQ φ' fr' h' a' w' rfl st r1 f1 d1 z1
        | ret => cases h2; exact hQ φ' fr' h' a' w' rfl st r1 f1 d1 z1
      · cases hc
    | cond c x y =>
      obtain ⟨hx', hy'⟩ : flatC x = true ∧ flatC y = true := by simpa only [flatC, Bool.and_eq_true] using hfl
      simp only [cCode] at hc
      split at hc
      · rename_i c' cx cy hc' hx hy
        cases hc
        obtain ⟨v, h1, h2⟩ := ob_some.1 (show ob (ev [] fr c') (fun v => sBool v (fun t => run F n (oif t cx cy) (.mk fr h))) = some (e, s) from hr)
        obtain ⟨t, rfl, h3⟩ := sBool_some h2
        have hE := opnd_of (A := A) (φ := φ) (loc := []) (st := []) hf (fun t i v hi => by cases hi) [c]
        have hcv : a.eval c = .bool t := hE c (by simp) _ _ hc' h1
        refine wpIn_cond hcv ?_
        rw [oif_if] at h3
        cases t with
        | true => exact ih1 _ _ _ _ _ h3 x π nt hx hx' φ a w rel hf hnt Q hQ
        | false => exact ih1 _ _ _ _ _ h3 y π nt hy hy' φ a w rel hf hnt Q hQ
      · cases hc
    | block id b =>
      obtain ⟨ib, hb', e⟩ := Option.map_eq_some_iff.1 (show (cCode T [] π nt b).map (.block id) = some ic from hc)
      subst e
      obtain ⟨p, h1, h2⟩ := ob_some.1 (show ob (run F n ib (.mk fr h)) (fun p => Ex.casesOn (motive := fun _ => Option (Ex × St)) p.1 (some p) (fun k => oif (Nat.beq k id) (some (.normal, p.2)) (some p)) (some p)) = some (e, s) from hr)
      obtain ⟨e1, s1⟩ := p
      refine wpIn_block (ih1 _ _ _ _ _ h1 b π nt hb' hfl φ a w rel hf hnt _ ?_)
      intro φ' fr' h' a' w' es st r1 f1 d1 z1
      subst es
      cases e1 with
      | normal => cases h2; exact hQ φ' fr' h' a' w' rfl st r1 f1 d1 z1
      | exit j =>
        have h2' : oif (Nat.beq j id) (some (Ex.normal, St.mk fr' h')) (some (.exit j, .mk fr' h')) = some (e, s) := h2
        rw [oif_if] at h2'
        show if j = id then Q .normal a' w' else Q (.exit j) a' w'
        split at h2'
        · rename_i hj
          rw [nbeq] at hj
          cases h2'
          rw [if_pos hj]
          exact hQ φ' fr' h' a' w' rfl st r1 f1 d1 z1
        · rename_i hj
          rw [nbeq] at hj
          cases h2'
          rw [if_neg hj]
          exact hQ φ' fr' h' a' w' rfl st r1 f1 d1 z1
      | ret => cases h2; exact hQ φ' fr' h' a' w' rfl st r1 f1 d1 z1
    | loop b =>
      obtain ⟨ib, hb', e⟩ := Option.map_eq_some_iff.1 (show (cCode T [] π nt b).map .loop = some ic from hc)
      subst e
      exact wpIn_loop_rounds (n + 1) (hL _ _ _ _ _ hr b π nt hb' hfl φ a w rel hf hnt Q hQ)
    | exit id =>
      cases hc
      cases hr
      exact wpIn_exit (hQ φ fr h a w rfl (Step.refl _ rel rfl rfl rfl rfl) rel hf rfl rfl)
    | ret =>
      cases hc
      cases hr
      exact wpIn_ret (hQ φ fr h a w rfl (Step.refl _ rel rfl rfl rfl rfl) rel hf rfl rfl)
    | _ => cases hfl
end
end Go.Proofs.YtmaaalpegnhjcaaDoor.Ev

/- Functions that hold a range over a function: prepared, run, and what the run says. No program in sight. -/
import Derived.Test.YtmaaalpegnhjcaaDoorBack2
import Derived.Test.YtmaaalpegnhjcaaDoorFlo
namespace Go.Proofs.YtmaaalpegnhjcaaDoor.Ev
open Go Go.RowKit
set_option linter.unusedVariables false
set_option linter.unusedSimpArgs false
inductive IB where
  | c (ic : IC)
  | seq (a b : IB)
  | block (id : Nat) (b : IB)
  | loop (b : IB)
  | back (g : Od) (d : Nat) (b : IC)
  | flo (l : List (IOper × List Nat))
  | cond (c : Od) (x y : IB)
/-- are there loads in no order? -/
def hasFlo : IB → Bool
  | .seq a b => hasFlo a || hasFlo b
  | .block _ b => hasFlo b
  | .loop b => hasFlo b
  | .flo _ => true
  | .cond _ a b => hasFlo a || hasFlo b
  | _ => false
def noneB {α : Type} : Option α → Bool
  | none => true
  | some _ => false
noncomputable def cRegB (T : Tr TI) (fl : Bool) (π : List Nat) (nt : Nat) (ops : List Oper) : Option (List (IOper × List Nat)) := bif fl then (match cFlo T π nt ops with
  | some l => bif floOk [] l then some l else none
  | none => none) else none
theorem cRegB_some {T : Tr TI} {fl : Bool} {π : List Nat} {nt : Nat} {ops : List Oper} {l : List (IOper × List Nat)} (h : cRegB T fl π nt ops = some l) : cFlo T π nt ops = some l := by
  unfold cRegB at h
  cases fl with
  | false => cases h
  | true =>
    simp only [cond_true] at h
    split at h
    · rename_i l' h'
      cases hb : floOk [] l' with
      | false => rw [hb] at h; cases h
      | true => rw [hb] at h; cases h; exact h'
    · cases h
noncomputable def cB (T : Tr TI) (fl : Bool) (π : List Nat) (nt : Nat) : Code → Option IB
  | .seq a b => match cB T fl π nt a, cB T fl π nt b with
    | some x, some y => some (.seq x y)
    | _, _ => none
  | .block id b => (cB T fl π nt b).map (.block id)
  | .loop b => (cB T fl π nt b).map .loop
  | .rangeFunc g ps asg body => match ps.toList, asg with
    | [tk, tv], .region _ ops false => match ops.toList with
      | [o1] => match o1.op, o1.dst, o1.guard with
        | .assign (.tmp tv'), some d0, none => match Nat.beq tv tv' && (!Nat.beq tk tv && (flatC body && (noneB (idx tk π 0) && (noneB (idx tv π 0) && (Nat.blt d0 nt && Nat.blt tv nt))))) with
          | true => match cO π [] g, idx d0 π 0, cCode T [] π nt body with
            | some x, some d, some ib => some (.back x d ib)
            | _, _, _ => none
          | false => none
        | _, _, _ => none
      | _ => none
    | _, _ => none
  | .region id ops true => match cRegB T fl π nt ops.toList with
    | some l => some (.flo l)
    | none => (cCode T [] π nt (.region id ops true)).map .c
  | .cond c a b => match cO π [] c, cB T fl π nt a, cB T fl π nt b with
    | some c', some x, some y => bif hasFlo x || hasFlo y then some (.cond c' x y) else (cCode T [] π nt (.cond c a b)).map .c
    | _, _, _ => (cCode T [] π nt (.cond c a b)).map .c
  | c => (cCode T [] π nt c).map .c
section
variable (F : Fns) (fuel : Nat) (B : FuncId → Bool)
/-- what is gone through: a slice of a name, a list that stays -/
noncomputable def bkSrc (h : Hp) (v : SV) : Option (Nat × Nat × Nat × List SV) :=
  sSliceC (.s v) none (fun b o N _ _ _ => ob (rd h b o N) (fun es => some (b, o, N, es))) (fun rows => ob (flat 1 rows) (fun es => some (0, 0, llen es, es))) none
noncomputable def backAt (fr : List AV) (h : Hp) (d : Nat) (ib : IC) (bs off : Nat) : Option (Ex × St) :=
  ob (rd h bs off 1) (fun c => List.casesOn (motive := fun _ => Option (Ex × St)) c none (fun v _ => ob (bkSrc h v) (fun q =>
                  oif (Nat.ble 1 q.2.2.1) (oif (Nat.ble q.2.2.1 1000000) (oif (asIs h bs off q.1 q.2.1 q.2.2.1 q.2.2.2) (ob (rounds F fuel ib fr d bs off q.1 q.2.1 q.2.2.1 q.2.2.2 q.2.2.1 h) (fun h' => some (.normal, .mk fr h'))) none) none) none)))
noncomputable def rbBack (s : St) (x : Od) (d : Nat) (ib : IC) : Option (Ex × St) :=
  St.casesOn (motive := fun _ => Option (Ex × St)) s (fun fr h => ob (ev [] fr x) (fun v => sFunc v (fun gf caps => oif (B gf) (List.casesOn (motive := fun _ => Option (Ex × St)) caps none (fun p r => List.casesOn (motive := fun _ => Option (Ex × St)) r (backAt F fuel fr h d ib p.1 p.2) (fun _ _ => none))) none)))
noncomputable def rbFlo (s : St) (l : List (IOper × List Nat)) : Option (Ex × St) := St.casesOn (motive := fun _ => Option (Ex × St)) s (fun fr h => ob (flops (runCl F (run F fuel)) l [] [] fr h) (fun s => some (.normal, s)))
abbrev RB := IB → St → Option (Ex × St)
noncomputable def rbSeq (ih : RB) (s : St) (a b : IB) : Option (Ex × St) := ob (ih a s) (fun p => Ex.casesOn (motive := fun _ => Option (Ex × St)) p.1 (ih b p.2) (fun _ => some p) (some p))
noncomputable def rbBlock (ih : RB) (s : St) (id : Nat) (b : IB) : Option (Ex × St) := ob (ih b s) (fun p => Ex.casesOn (motive := fun _ => Option (Ex × St)) p.1 (some p) (fun k => oif (Nat.beq k id) (some (.normal, p.2)) (some p)) (some p))
noncomputable def rbLoop (ih : RB) (s : St) (b : IB) : Option (Ex × St) := ob (ih b s) (fun p => Ex.casesOn (motive := fun _ => Option (Ex × St)) p.1 (ih (.loop b) p.2) (fun _ => some p) (some p))
noncomputable def rbCond (ih : RB) (s : St) (c : Od) (x y : IB) : Option (Ex × St) := St.casesOn (motive := fun _ => Option (Ex × St)) s (fun fr _ => ob (ev [] fr c) (fun v => sBool v (fun t => ih (oif t x y) s)))
noncomputable def rbStep (ih : RB) (c : IB) (s : St) : Option (Ex × St) :=
  IB.casesOn (motive := fun _ => Option (Ex × St)) c (fun ic => run F fuel ic s) (rbSeq ih s) (rbBlock ih s) (rbLoop ih s) (rbBack F fuel B s) (rbFlo F fuel s) (rbCond ih s)
noncomputable def runB (n : Nat) : RB := Nat.rec (motive := fun _ => RB) (fun _ _ => none) (fun _ ih => rbStep F fuel B ih) n
end
/-- marks laid in front of what was deferred, each with an empty block -/
def Marks (d d' : List Deferred) (w w' : World) : Prop :=
  ∃ Ds : List Nat, d' = Ds.map (fun D => ({ target := .collected D, args := #[] } : Deferred)) ++ d ∧ Ds.Pairwise (fun x y => x ≠ y) ∧ ∀ D ∈ Ds, w.heap.size ≤ D ∧ w'.heap[D]? = some (.deferred (some []))
section
variable {P : Program} {A : Nat → Int} {T : Tr TI} {F : Fns} {fuel : Nat} {B : FuncId → Bool}
theorem Marks.refl (d : List Deferred) (w w' : World) : Marks d d w w' := ⟨[], rfl, .nil, fun D h => by simp at h⟩
theorem marks_keep {Ds : List Nat} {w' w'' : World} {φ φ' : Phi} {h h' : Hp} {V : Nat → Prop} (r : Rel A φ h w') (s : Step V φ φ' h h' w' w'') (hD : ∀ D ∈ Ds, w'.heap[D]? = some (.deferred (some []))) : ∀ D ∈ Ds, w''.heap[D]? = some (.deferred (some [])) := by
  intro D hm
  have h1 := hD D hm
  rw [s.old D (Array.getElem?_eq_some_iff.1 h1).1 (fun n L _ hn hL => r.notObj h1 (fun c t z e => by cases e) (fun e c e' => by cases e') hn hL)]
  exact h1
theorem Marks.trans {d d' d'' : List Deferred} {w w' w'' : World} {φ φ' : Phi} {h h' : Hp} {V : Nat → Prop} (m : Marks d d' w w') (r : Rel A φ h w') (s : Step V φ φ' h h' w' w'') (hs : w.heap.size ≤ w'.heap.size) (m' : Marks d' d'' w' w'') : Marks d d'' w w'' := by
  have hl : ∀ (D : Nat), w'.heap[D]? = some (.deferred (some [])) → D < w'.heap.size := fun D h1 => (Array.getElem?_eq_some_iff.1 h1).1
  obtain ⟨Ds0, e0, hp0, hD0⟩ := m
  have hk := marks_keep r s (fun D hm => (hD0 D hm).2)
  obtain ⟨Ds1, e1, hp1, hD1⟩ := m'
  refine ⟨Ds1 ++ Ds0, by rw [e1, e0]; simp, List.pairwise_append.2 ⟨hp1, hp0, fun x hx y hy e => ?_⟩, fun D hm => ?_⟩
  · have h1 := (hD1 x hx).1
    have h2 := hl y (hD0 y hy).2
    omega
  · rcases List.mem_append.1 hm with h1 | h1
    · exact ⟨Nat.le_trans hs (hD1 D h1).1, (hD1 D h1).2⟩
    · exact ⟨(hD0 D h1).1, hk D h1⟩
def PostB (A : Nat → Int) (π : List Nat) (φ : Phi) (h : Hp) (w : World) (a : Act) (e : Ex) (s : St) (Q : Exit → Act → World → Prop) : Prop :=
  ∀ φ' fr' h' a' w', s = .mk fr' h' → Step (fun n => h.lo ≤ n) φ φ' h h' w w' → Rel A φ' h' w' → FrR A φ' π fr' a' → Marks a.defers a'.defers w w' → a'.tmps.size = a.tmps.size → Q (exOf e) a' w'
theorem PostB.trans {π : List Nat} {φ ψ : Phi} {h h' : Hp} {w w' : World} {a a' : Act} {e : Ex} {s : St} {Q : Exit → Act → World → Prop} (k : PostB A π φ h w a e s Q) (st : Step (fun n => h.lo ≤ n) φ ψ h h' w w') (r : Rel A ψ h' w') (hd : Marks a.defers a'.defers w w') (hs : a'.tmps.size = a.tmps.size) : PostB A π ψ h' w' a' e s Q :=
  fun φ' fr' h'' a'' w'' e1 s1 r1 f1 d1 z1 => k φ' fr' h'' a'' w'' e1 (st.trans' s1) r1 f1 (hd.trans r s1 st.size d1) (z1.trans hs)
def SoundB (P : Program) (A : Nat → Int) (T : Tr TI) (F : Fns) (fuel : Nat) (B : FuncId → Bool) (n : Nat) : Prop :=
  ∀ ib fr h e s, runB F fuel B n ib (.mk fr h) = some (e, s) → ∀ code fl π nt, cB T fl π nt code = some ib → ∀ φ a w, Rel A φ h w → FrR A φ π fr a → nt ≤ a.tmps.size → ∀ Q, PostB A π φ h w a e s Q → code.wp P Q a w
def SoundBL (P : Program) (A : Nat → Int) (T : Tr TI) (F : Fns) (fuel : Nat) (B : FuncId → Bool) (n : Nat) : Prop :=
  ∀ ib fr h e s, runB F fuel B n (.loop ib) (.mk fr h) = some (e, s) → ∀ code fl π nt, cB T fl π nt code = some ib → ∀ φ a w, Rel A φ h w → FrR A φ π fr a → nt ≤ a.tmps.size → ∀ Q, PostB A π φ h w a e s Q → Code.rounds P code Q n a w
theorem soundB_c (env : Env P A T F) {ic : IC} {fr : List AV} {h : Hp} {e : Ex} {s : St} (hr : run F fuel ic (.mk fr h) = some (e, s)) {code : Code} {π : List Nat} {nt : Nat} (hc : cCode T [] π nt code = some ic) {φ : Phi} {a : Act} {w : World} (rel : Rel A φ h w) (hf : FrR A φ π fr a) (hnt : nt ≤ a.tmps.size) {Q : Exit → Act → World → Prop} (hQ : PostB A π φ h w a e s Q) : code.wp P Q a w :=
  (sound_all env fuel).1 ic fr h e s hr code [] π nt hc φ a w rel hf hnt Q (fun φ' fr' h' a' w' es st r1 f1 d1 z1 => hQ φ' fr' h' a' w' es st r1 f1 (by rw [d1]; exact Marks.refl _ _ _) z1)
theorem soundB_back (env : Env P A T F) (hB : ∀ f, B f = true → Iter P f) {fr : List AV} {h : Hp} {e : Ex} {s : St} {x : Od} {d : Nat} {ib : IC} (hr : rbBack F fuel B (.mk fr h) x d ib = some (e, s)) {g : Operand} {ps : Array Tmp} {asg body : Code} {fl : Bool} {π : List Nat} {nt : Nat}
    (hc : cB T fl π nt (.rangeFunc g ps asg body) = some (.back x d ib)) {φ : Phi} {a : Act} {w : World} (rel : Rel A φ h w) (hf : FrR A φ π fr a) (hnt : nt ≤ a.tmps.size) {Q : Exit → Act → World → Prop} (hQ : PostB A π φ h w a e s Q) : (Code.rangeFunc g ps asg body).wp P Q a w := by
  simp only [cB] at hc
  split at hc
  · rename_i tk tv id ops hps
    split at hc
    · rename_i o1 hops
      split at hc
      · rename_i tv' d0 h1 h2 h3
        split at hc
        · rename_i hcond
          simp only [Bool.and_eq_true, Bool.not_eq_true'] at hcond
          obtain ⟨k1, k2, k3, k4, k5, k6, k7⟩ := hcond
          split at hc
          · rename_i x' d' ib' hg hd hib
            cases hc
            obtain rfl := Nat.eq_of_beq_eq_true k1
            have hps' : ps = #[tk, tv] := by rw [← Array.toList_inj, hps]
            have hops' : ops = #[o1] := by rw [← Array.toList_inj, hops]
            subst hps' hops'
            obtain ⟨v, hv, hr1⟩ := ob_some.1 hr
            obtain ⟨gf, caps, rfl, hr2⟩ := sFunc_some hr1
            obtain ⟨hb, hr3⟩ := oif_some.1 hr2
            match caps, hr3, hv with
            | [p], hr3, hv =>
              obtain ⟨c, hc1, hr4⟩ := ob_some.1 (show backAt F fuel fr h d ib p.1 p.2 = some (e, s) from hr3)
              match c, hr4, hc1 with
              | v0 :: rest, hr4, hc1 =>
                obtain ⟨⟨b, o, N, es⟩, _, hr5⟩ := ob_some.1 (show ob (bkSrc h v0) (fun q =>
                  oif (Nat.ble 1 q.2.2.1) (oif (Nat.ble q.2.2.1 1000000) (oif (asIs h p.1 p.2 q.1 q.2.1 q.2.2.1 q.2.2.2) (ob (rounds F fuel ib fr d p.1 p.2 q.1 q.2.1 q.2.2.1 q.2.2.2 q.2.2.1 h) (fun h' => some (.normal, .mk fr h'))) none) none) none) = some (e, s) from hr4)
                obtain ⟨hN, hr5⟩ := oif_some.1 hr5
                obtain ⟨hN2, hr6⟩ := oif_some.1 hr5
                obtain ⟨has, hr8⟩ := oif_some.1 hr6
                obtain ⟨hfin, hrr, hr9⟩ := ob_some.1 hr8
                cases hr9
                have hE := opnd_of (A := A) (φ := φ) (loc := []) (st := []) hf (fun t i v hi => by cases hi) [g]
                obtain ⟨vs, hgv, hcv⟩ := (show ∃ vs : List Value, a.eval g = .func (.func gf) #[] vs.toArray ∧ All2 (fun p x => cPtr φ p.1 p.2 x) [p] vs from hE g (by simp) _ _ hg hv)
                cases hcv with
                | @cons _ pv _ _ hpv hn =>
                  cases hn
                  obtain ⟨Lx, hLx, rfl⟩ := hpv
                  have nn : ∀ {t : Nat}, noneB (idx t π 0) = true → idx t π 0 = none := fun {t} h => by
                    cases hi : idx t π 0 with
                    | none => rfl
                    | some _ => rw [hi] at h; cases h
                  refine back_sound env (hB gf hb) h1 h2 h3 k3 hib hd (nn k4) (nn k5) (fun e => by subst e; simp at k2) (by simpa using k6) (by simpa using k7) rel hf hnt (Nat.le_of_ble_eq_true hN) (Nat.le_of_ble_eq_true hN2) hgv ⟨Lx, hLx, rfl⟩ has hrr ?_
                  intro φ' w' D st r hD hDw
                  exact hQ φ' fr hfin _ w' rfl st r (hf.mono (st.le rel)) ⟨[D], rfl, by simp, fun D' hm => by simp at hm; subst hm; exact ⟨hD, hDw⟩⟩ rfl
              | [], hr4, hc1 => cases hr4
            | [], hr3, hv => cases hr3
            | _ :: _ :: _, hr3, hv => cases hr3
          · cases hc
        · cases hc
      · cases hc
    · cases hc
  · cases hc
theorem soundB_all (env : Env P A T F) (hB : ∀ f, B f = true → Iter P f) : ∀ n, SoundB P A T F fuel B n ∧ SoundBL P A T F fuel B n := by
  intro n
  induction n with
  | zero => exact ⟨fun ic fr h e s hr => (by cases hr), fun ic fr h e s hr => (by cases hr)⟩
  | succ n ih =>
    obtain ⟨ih1, ih2⟩ := ih
    have hL : SoundBL P A T F fuel B (n + 1) := by
      intro ib fr h e s hr code fl π nt hc φ a w rel hf hnt Q hQ
      obtain ⟨p, h1, h2⟩ := ob_some.1 (show ob (runB F fuel B n ib (.mk fr h)) (fun p => Ex.casesOn (motive := fun _ => Option (Ex × St)) p.1 (runB F fuel B n (.loop ib) p.2) (fun _ => some p) (some p)) = some (e, s) from hr)
      obtain ⟨e1, s1⟩ := p
      rw [rounds_succ]
      refine ih1 _ _ _ _ _ h1 code fl π nt hc φ a w rel hf hnt _ ?_
      intro φ' fr' h' a' w' es st r1 f1 d1 z1
      subst es
      cases e1 with
      | normal => exact ih2 _ _ _ _ _ h2 code fl π nt hc φ' a' w' r1 f1 (by rw [z1]; exact hnt) Q (hQ.trans st r1 d1 z1)
      | exit id => cases h2; exact hQ φ' fr' h' a' w' rfl st r1 f1 d1 z1
      | ret => cases h2; exact hQ φ' fr' h' a' w' rfl st r1 f1 d1 z1
    refine ⟨?_, hL⟩
    intro ib fr h e s hr code fl π nt hc φ a w rel hf hnt Q hQ
    have atom : ∀ c, (cCode T [] π nt c).map IB.c = some ib → c.wp P Q a w := by
      intro c hc
      obtain ⟨ic, h1, rfl⟩ := Option.map_eq_some_iff.1 hc
      exact soundB_c env (show run F fuel ic (.mk fr h) = some (e, s) from hr) h1 rel hf hnt hQ
    cases code with
    | seq x y =>
      simp only [cB] at hc
      split at hc
      · rename_i cx cy hx hy
        cases hc
        obtain ⟨p, h1, h2⟩ := ob_some.1 (show ob (runB F fuel B n cx (.mk fr h)) (fun p => Ex.casesOn (motive := fun _ => Option (Ex × St)) p.1 (runB F fuel B n cy p.2) (fun _ => some p) (some p)) = some (e, s) from hr)
        obtain ⟨e1, s1⟩ := p
        refine wp_seq (ih1 _ _ _ _ _ h1 x fl π nt hx φ a w rel hf hnt _ ?_)
        intro φ' fr' h' a' w' es st r1 f1 d1 z1
        subst es
        cases e1 with
        | normal => exact ih1 _ _ _ _ _ h2 y fl π nt hy φ' a' w' r1 f1 (by rw [z1]; exact hnt) Q (hQ.trans st r1 d1 z1)
        | exit id => cases h2; exact hQ φ' fr' h' a' w' rfl st r1 f1 d1 z1
        | ret => cases h2; exact hQ φ' fr' h' a' w' rfl st r1 f1 d1 z1
      · cases hc
    | block id b =>
      obtain ⟨jb, hb, e'⟩ := Option.map_eq_some_iff.1 (show (cB T fl π nt b).map (.block id) = some ib from hc)
      subst e'
      obtain ⟨p, h1, h2⟩ := ob_some.1 (show ob (runB F fuel B n jb (.mk fr h)) (fun p => Ex.casesOn (motive := fun _ => Option (Ex × St)) p.1 (some p) (fun k => oif (Nat.beq k id) (some (.normal, p.2)) (some p)) (some p)) = some (e, s) from hr)
      obtain ⟨e1, s1⟩ := p
      refine wp_block (ih1 _ _ _ _ _ h1 b fl π nt hb φ a w rel hf hnt _ ?_)
      intro φ' fr' h' a' w' es st r1 f1 d1 z1
      subst es
      cases e1 with
      | normal => cases h2; exact hQ φ' fr' h' a' w' rfl st r1 f1 d1 z1
      | exit j =>
        have h2' : oif (Nat.beq j id) (some (Ex.normal, St.mk fr' h')) (some (.exit j, .mk fr' h')) = some (e, s) := h2
        rw [oif_if] at h2'
        show if j = id then Q .normal a' w' else Q (.exit j) a' w'
        split at h2'
        · rename_i hj
          rw [nbeq] at hj
          cases h2'
          rw [if_pos hj]
          exact hQ φ' fr' h' a' w' rfl st r1 f1 d1 z1
        · rename_i hj
          rw [nbeq] at hj
          cases h2'
          rw [if_neg hj]
          exact hQ φ' fr' h' a' w' rfl st r1 f1 d1 z1
      | ret => cases h2; exact hQ φ' fr' h' a' w' rfl st r1 f1 d1 z1
    | loop b =>
      obtain ⟨jb, hb, e'⟩ := Option.map_eq_some_iff.1 (show (cB T fl π nt b).map .loop = some ib from hc)
      subst e'
      exact wp_loop_rounds (n + 1) (hL _ _ _ _ _ hr b fl π nt hb φ a w rel hf hnt Q hQ)
    | rangeFunc g ps asg body =>
      cases ib with
      | back x d jb => exact soundB_back env hB (show rbBack F fuel B (.mk fr h) x d jb = some (e, s) from hr) hc rel hf hnt hQ
      | _ =>
        simp only [cB] at hc
        repeat' (first | (cases hc; done) | split at hc)
    | skip => exact atom _ hc
    | region id ops draw =>
      cases draw with
      | false => exact atom _ hc
      | true =>
        simp only [cB] at hc
        split at hc
        · rename_i l hl
          cases hc
          obtain ⟨s1, h1, h2⟩ := ob_some.1 (show ob (flops (runCl F (run F fuel)) l [] [] fr h) (fun s => some (.normal, s)) = some (e, s) from hr)
          cases h2
          exact flo_sound env.mix env.tys (cl_of_sound env (sound_all env fuel).1) (run_abs (F := F) (fun f vs h v h' hx => (env.ext f vs h v h' hx).2.1) fuel).2 (cRegB_some hl) h1 rel hf hnt (fun φ' fr' h' a' w' es st r1 f1 d1 z1 => hQ φ' fr' h' a' w' es st r1 f1 (by rw [d1]; exact Marks.refl _ _ _) z1)
        · exact atom _ hc
    | cond c x y =>
      simp only [cB] at hc
      split at hc
      · rename_i c' cx cy hc' hx hy
        cases hfl : (hasFlo cx || hasFlo cy) with
        | false => rw [hfl] at hc; exact atom _ hc
        | true =>
          rw [hfl] at hc
          cases hc
          obtain ⟨v, h1, h2⟩ := ob_some.1 (show ob (ev [] fr c') (fun v => sBool v (fun t => runB F fuel B n (oif t cx cy) (.mk fr h))) = some (e, s) from hr)
          obtain ⟨t, rfl, h3⟩ := sBool_some h2
          have hE := opnd_of (A := A) (φ := φ) (loc := []) (st := []) hf (fun t i v hi => by cases hi) [c]
          have hcv : a.eval c = .bool t := hE c (by simp) _ _ hc' h1
          refine wp_cond hcv ?_
          rw [oif_if] at h3
          cases t with
          | true => exact ih1 _ _ _ _ _ h3 x fl π nt hx φ a w rel hf hnt Q hQ
          | false => exact ih1 _ _ _ _ _ h3 y fl π nt hy φ a w rel hf hnt Q hQ
      · exact atom _ hc
    | exit _ => exact atom _ hc
    | scope _ => exact atom _ hc
    | label _ => exact atom _ hc
    | goto _ => exact atom _ hc
    | ret => exact atom _ hc
    | refuse _ => exact atom _ hc
/-- marks taken up at a function's end -/
theorem leaves_marks {fn : Func} {tmps : Array Value} {R : Ending → World → Prop} : ∀ (Ds : List Nat) (w : World), Ds.Pairwise (fun x y => x ≠ y) → (∀ D ∈ Ds, w.heap[D]? = some (.deferred (some []))) →
    (∀ w', w'.os = w.os → w'.tape = w.tape → w'.output = w.output → w'.heap.size = w.heap.size → (∀ k, (∀ D ∈ Ds, k ≠ D) → w'.heap[k]? = w.heap[k]?) → ∃ v, (results fn tmps).run P w' = .ok v w' ∧ R (.returned v) w') →
    LeavesInM Fence.wide 0 P fn tmps R (Ds.map (fun D => ({ target := .collected D, args := #[] } : Deferred))) .returning w
  | [], w, _, _, h => h w rfl rfl rfl rfl (fun k _ => rfl)
  | D :: Ds, w, hp, hD, h => by
    refine ⟨fun e => (by cases e), .inl ⟨D, _, rfl, run_takeDeferred (hD D (by simp)), ?_⟩⟩
    have hp' := List.pairwise_cons.1 hp
    refine leaves_marks Ds _ hp'.2 (fun D' hm => (World.putObj_heap_other (fun e => hp'.1 D' hm e.symm)).trans (hD D' (by simp [hm]))) (fun w' e1 e2 e3 e4 e5 => ?_)
    refine h w' e1 e2 e3 (by rw [e4]; simp [World.putObj]) (fun k hk => ?_)
    rw [e5 k (fun D' hm => hk D' (by simp [hm]))]
    exact World.putObj_heap_other (hk D (by simp))
/-- a call's frame at its beginning -/
theorem frame0 {φ : Phi} {vs : List AV} {args : Array Value} (ha : All2 (cV A φ) vs args.toList) {nargs nslots ntmps : Nat} (hl : vs.length = nargs) (acc : List Nat) :
    FrR A φ (upTo 0 nargs ++ acc) (vs ++ undefs nslots) { tmps := args ++ Array.replicate (ntmps - args.size) undef, defers := [] } := by
  have hal := ha.len
  simp only [Array.length_toList] at hal
  intro t j u hj hu
  rw [List.getElem?_append] at hu
  split at hu
  · rename_i hlt
    have hjn : j < nargs := by omega
    have : t = j := by
      have h4 := idx_get hj
      rw [List.getElem?_append_left (by rw [upTo_len]; exact hjn)] at h4
      have h5 := upTo_idx nargs 0 [] j (by omega) (by omega)
      rw [List.append_nil] at h5
      have h6 := idx_get h5
      rw [Nat.sub_zero, h4] at h6
      exact Option.some.inj h6
    subst this
    obtain ⟨x, hx, hcx⟩ := ha.get t u hu
    rw [Array.getElem?_toList] at hx
    have : (args ++ Array.replicate (ntmps - args.size) undef).getD t undef = x := by
      rw [Array.getD_eq_getD_getElem?, Array.getElem?_append_left (by omega), hx]; rfl
    show cV A φ u ((args ++ Array.replicate (ntmps - args.size) undef).getD t undef)
    rw [this]
    exact hcx
  · rename_i hge
    obtain rfl := undefs_get _ _ _ hu
    have htn : nargs ≤ t := by
      rcases Nat.lt_or_ge t nargs with h4 | h4
      · rw [upTo_idx _ 0 _ t (by omega) (by omega)] at hj
        have : t - 0 = j := Option.some.inj hj
        omega
      · exact h4
    show (args ++ Array.replicate (ntmps - args.size) undef).getD t undef = undef
    rw [Array.getD_eq_getD_getElem?, Array.getElem?_append_right (by omega)]
    rw [Array.getElem?_replicate]
    split <;> rfl
/-- a function that holds a range over a function: its call, from its run -/
theorem callB (env : Env P A T F) (hB : ∀ f, B f = true → Iter P f) {n : Nat} {f : FuncId} {fn : Func} {b : Code} (hf : P.funcs[f]? = some fn) (hbody : fn.body = some b) {nargs nslots : Nat} (hna : nargs ≤ fn.ntmps) {acc : List Nat} {fl : Bool} {ib : IB}
    (hc : cB T fl (upTo 0 nargs ++ acc) fn.ntmps b = some ib) {res : List IR} (hres : cRes T (upTo 0 nargs ++ acc) fn.results.toList = some res) {vs : List AV} {h h' : Hp} {e : Ex} {s : St} {v0 : AV} (hl : vs.length = nargs)
    (hrun : runB F fuel B n ib (.mk (vs ++ undefs nslots) h) = some (e, s)) (he : e = .normal ∨ e = .ret) (hr : result s res = some (v0, h')) :
    ∀ φ w (args : Array Value), Rel A φ h w → All2 (cV A φ) vs args.toList → Calls P f args w (fun e w' => ∃ rv φ', e = .returned rv ∧ Step (fun n => h.lo ≤ n) φ φ' h h' w w' ∧ Rel A φ' h' w' ∧ cV A φ' v0 rv) := by
  intro φ w args rel ha
  have hal := ha.len
  simp only [Array.length_toList] at hal
  refine (callsIn_wide (n := 0)).1 (callsIn_of_wp_marks hf hbody trivial (wpIn_wide.2 ?_))
  refine (soundB_all env hB n).1 _ _ _ _ _ hrun b _ _ _ hc φ _ w rel (frame0 ha hl acc) ?_ _ ?_
  · simp
    omega
  · intro φ' fr' h'' a' w' es st r1 f1 d1 z1
    subst es
    obtain ⟨rfl, xs, hxs, hcase⟩ := result_some hr
    obtain ⟨Ds, e1, hp, hD⟩ := d1
    have key : LeavesInM Fence.wide 0 P fn a'.tmps (fun e w' => ∃ rv φ', e = .returned rv ∧ Step (fun n => h.lo ≤ n) φ φ' h h' w w' ∧ Rel A φ' h' w' ∧ cV A φ' v0 rv) a'.defers .returning w' := by
      rw [e1]
      simp only [List.append_nil]
      refine leaves_marks Ds w' hp (fun D hm => (hD D hm).2) (fun w2 q1 q2 q3 q4 q5 => ?_)
      have r2 : Rel A φ' h' w2 := ⟨r1.wf, r1.dom, fun m x hx => (r1.blk m x hx).world (fun L hL => q5 L.b (fun D hm e => r1.notObj (hD D hm).2 (fun c t z e => by cases e) (fun e c e' => by cases e') (by rw [hx]; rfl) hL e)), r1.inj, fun b cs e => by
        obtain ⟨ty, h9⟩ := r1.con b cs e
        exact ⟨ty, by rw [q5 b (fun D hm e' => by have := (hD D hm).2; rw [← e', h9] at this; cases this)]; exact h9⟩, r1.sep⟩
      have st2 : Step (fun n => h.lo ≤ n) φ φ' h h' w w2 := ⟨st.abs, st.ext, st.kle, st.knew, q1.trans st.os, q2.trans st.tape, q3.trans st.output, by rw [q4]; exact st.size, fun k hk hv => (q5 k (fun D hm e => by have := (hD D hm).1; omega)).trans (st.old k hk hv), st.new⟩
      obtain ⟨us, hus, hall⟩ := res_sound env.tys r2 f1 fn.results.toList _ xs hres hxs
      have hrun' : ∀ v', (if h : us.toArray.size = 1 then us.toArray[0] else .tuple us.toArray) = v' → (results fn a'.tmps).run P w2 = .ok v' w2 := by
        intro v' hv'
        unfold results
        have e1 : fn.results = fn.results.toList.toArray := by simp
        rw [e1]
        simp only [List.mapM_toArray, Sem.run_bind, Sem.run_map]
        erw [hus]
        simp only [Result.andThen_ok, Sem.run_pure, hv']
      have hfin : ∃ v', (results fn a'.tmps).run P w2 = .ok v' w2 ∧ cV A φ' v0 v' := by
        have hlen' := hall.len
        rcases hcase with ⟨rfl, rfl⟩ | ⟨p, rfl, hmk⟩ | ⟨h2x, rfl⟩
        · cases hall
          exact ⟨_, hrun' _ rfl, ⟨[], rfl, .nil⟩⟩
        · cases hall with
          | @cons _ u _ _ hu hn =>
            cases hn
            refine ⟨u, hrun' u rfl, ?_⟩
            unfold cV1 at hu
            rcases mkAV_some hmk with ⟨e2, rfl⟩ | ⟨e2, y, hy, rfl⟩
            · rw [if_pos e2] at hu; exact hu
            · rw [e2] at hu
              simp only [Bool.false_eq_true, if_false] at hu
              obtain ⟨y', h5, h6⟩ := hu
              rw [hy] at h5
              cases h5
              exact h6
        · refine ⟨.tuple us.toArray, hrun' _ ?_, ⟨us, rfl, hall⟩⟩
          rw [dif_neg]
          simp only [List.size_toArray]
          omega
      obtain ⟨v', hv1, hv2⟩ := hfin
      exact ⟨v', hv1, v', φ', rfl, st2, r2, hv2⟩
    rcases he with rfl | rfl
    · exact key
    · exact key
theorem rounds_abs (hX : ∀ f vs h v h', fnsX F f vs h = some (v, h') → WF h → Abs (fun n => h.lo ≤ n) h h') {ib : IC} {fr : List AV} {d bs off b o N : Nat} {es : List SV} : ∀ (k : Nat) (h h' : Hp), rounds F fuel ib fr d bs off b o N es k h = some h' → WF h → Abs (fun n => h.lo ≤ n) h h'
  | 0, h, h', hr, k => by cases (show some h = some h' from hr); exact Abs.refl _ k
  | j + 1, h, h', hr, k => by
    obtain ⟨e, _, h1⟩ := ob_some.1 (show ob (lget es j) (fun e => ob (run F fuel ib (.mk (lset fr d (.s e)) h)) (fun p =>
      Ex.casesOn (motive := fun _ => Option Hp) p.1 (St.casesOn (motive := fun _ => Option Hp) p.2 (fun _ h' => oif (asIs h' bs off b o N es) (rounds F fuel ib fr d bs off b o N es j h') none)) (fun _ => none) none)) = some h' from hr)
    obtain ⟨p, hp, h2⟩ := ob_some.1 h1
    obtain ⟨ex, st⟩ := p
    obtain ⟨fr1, h3, rfl, a⟩ := (run_abs hX fuel).1 _ _ _ _ _ hp k
    cases ex with
    | normal =>
      obtain ⟨_, h4⟩ := oif_some.1 (show oif (asIs h3 bs off b o N es) (rounds F fuel ib fr d bs off b o N es j h3) none = some h' from h2)
      exact a.trans' (rounds_abs hX j _ _ h4 a.wf)
    | exit _ => cases h2
    | ret => cases h2
theorem floDo_abs {cl : FuncId → List AV → Hp → R} (hcla : ClAbs cl) {st fr : List AV} {es : List FE} {h h' : Hp} {op : IOp} {g : Option (Nat × Bool)} {js : List Nat} {v : AV} {x : FE} (k : WF h) (hd : floDo cl st fr es h op g js = some (v, h', x)) : Abs (fun n => h.lo ≤ n) h h' := by
  obtain ⟨b, hb, h1⟩ := ob_some.1 hd
  cases b with
  | false =>
    have h2 : some (AV.undef, h, FE.mk true (fun _ => some .undef) h .undef) = some (v, h', x) := h1
    cases h2
    exact Abs.refl _ k
  | true =>
    obtain ⟨p, hp, h2⟩ := ob_some.1 (show floGo cl st fr es h op js = some (v, h', x) from h1)
    obtain ⟨v0, h0'⟩ := p
    have a := (iop_abs k hcla hp).2
    cases op with
    | p po =>
      have h3 : some (v0, h, FE.mk true (fun _ => some v0) h v0) = some (v, h', x) := h2
      cases h3
      exact Abs.refl _ k
    | a ao =>
      cases hl : isLd (.a ao) with
      | true =>
        rw [hl] at h2
        obtain ⟨_, h4⟩ := oif_some.1 (show oif (allJ (fun e => oif e.ld true (evIs (ob (iop cl st fr e.h (.a ao)) (fun q => some q.1)) v0)) es js) (some (v0, h, FE.mk true (fun h' => ob (iop cl st fr h' (.a ao)) (fun q => some q.1)) h v0)) none = some (v, h', x) from h2)
        cases h4
        exact Abs.refl _ k
      | false =>
        rw [hl] at h2
        obtain ⟨_, h4⟩ := oif_some.1 (show oif (allJ (fun e => oif e.ld (evIs (e.ev h0') e.v) false) es js) (some (v0, h0', FE.mk false (fun _ => none) h .undef)) none = some (v, h', x) from h2)
        cases h4
        exact a
theorem flops_abs {cl : FuncId → List AV → Hp → R} (hcla : ClAbs cl) : ∀ (l : List (IOper × List Nat)) (st : List AV) (es : List FE) (fr : List AV) (h : Hp) (s : St), flops cl l st es fr h = some s → WF h → ∃ fr' h', s = .mk fr' h' ∧ Abs (fun n => h.lo ≤ n) h h'
  | [], st, es, fr, h, s, hr, k => ⟨fr, h, (Option.some.inj (show some (St.mk fr h) = some s from hr)).symm, Abs.refl _ k⟩
  | (.mk dst op g, m) :: l, st, es, fr, h, s, hr, k => by
    obtain ⟨d, hd, h1⟩ := ob_some.1 (show ob (floDo cl st fr es h op g m) (fun p => flops cl l (p.1 :: st) (p.2.2 :: es) (putD fr dst p.1) p.2.1) = some s from hr)
    obtain ⟨v, h', x⟩ := d
    have a := floDo_abs hcla k hd
    obtain ⟨fr', h'', e, a'⟩ := flops_abs hcla l _ _ _ _ s h1 a.wf
    exact ⟨fr', h'', e, a.trans' a'⟩
theorem runB_abs (hX : ∀ f vs h v h', fnsX F f vs h = some (v, h') → WF h → Abs (fun n => h.lo ≤ n) h h') : ∀ n ib fr h e s, runB F fuel B n ib (.mk fr h) = some (e, s) → WF h → ∃ fr' h', s = .mk fr' h' ∧ Abs (fun n => h.lo ≤ n) h h' := by
  intro n
  induction n with
  | zero => intro ib fr h e s hr; cases hr
  | succ n ih =>
    intro ib fr h e s hr k
    cases ib with
    | c ic => exact (run_abs hX fuel).1 _ _ _ _ _ (show run F fuel ic (.mk fr h) = some (e, s) from hr) k
    | seq x y =>
      obtain ⟨p, h1, h2⟩ := ob_some.1 (show ob (runB F fuel B n x (.mk fr h)) (fun p => Ex.casesOn (motive := fun _ => Option (Ex × St)) p.1 (runB F fuel B n y p.2) (fun _ => some p) (some p)) = some (e, s) from hr)
      obtain ⟨e1, s1⟩ := p
      obtain ⟨fr1, h3, rfl, a⟩ := ih _ _ _ _ _ h1 k
      cases e1 with
      | normal =>
        obtain ⟨fr2, h4, rfl, a2⟩ := ih _ _ _ _ _ h2 a.wf
        exact ⟨fr2, h4, rfl, a.trans' a2⟩
      | exit _ => cases h2; exact ⟨_, _, rfl, a⟩
      | ret => cases h2; exact ⟨_, _, rfl, a⟩
    | block id b =>
      obtain ⟨p, h1, h2⟩ := ob_some.1 (show ob (runB F fuel B n b (.mk fr h)) (fun p => Ex.casesOn (motive := fun _ => Option (Ex × St)) p.1 (some p) (fun k => oif (Nat.beq k id) (some (.normal, p.2)) (some p)) (some p)) = some (e, s) from hr)
      obtain ⟨e1, s1⟩ := p
      obtain ⟨fr1, h3, rfl, a⟩ := ih _ _ _ _ _ h1 k
      cases e1 with
      | normal => cases h2; exact ⟨_, _, rfl, a⟩
      | exit j =>
        have h2' : oif (Nat.beq j id) (some (Ex.normal, St.mk fr1 h3)) (some (.exit j, .mk fr1 h3)) = some (e, s) := h2
        rw [oif_if] at h2'
        split at h2' <;> (cases h2'; exact ⟨_, _, rfl, a⟩)
      | ret => cases h2; exact ⟨_, _, rfl, a⟩
    | loop b =>
      obtain ⟨p, h1, h2⟩ := ob_some.1 (show ob (runB F fuel B n b (.mk fr h)) (fun p => Ex.casesOn (motive := fun _ => Option (Ex × St)) p.1 (runB F fuel B n (.loop b) p.2) (fun _ => some p) (some p)) = some (e, s) from hr)
      obtain ⟨e1, s1⟩ := p
      obtain ⟨fr1, h3, rfl, a⟩ := ih _ _ _ _ _ h1 k
      cases e1 with
      | normal =>
        obtain ⟨fr2, h4, rfl, a2⟩ := ih _ _ _ _ _ h2 a.wf
        exact ⟨fr2, h4, rfl, a.trans' a2⟩
      | exit _ => cases h2; exact ⟨_, _, rfl, a⟩
      | ret => cases h2; exact ⟨_, _, rfl, a⟩
    | cond c x y =>
      obtain ⟨v, h1, h2⟩ := ob_some.1 (show ob (ev [] fr c) (fun v => sBool v (fun t => runB F fuel B n (oif t x y) (.mk fr h))) = some (e, s) from hr)
      obtain ⟨t, rfl, h3⟩ := sBool_some h2
      exact ih _ _ _ _ _ h3 k
    | flo l =>
      obtain ⟨s1, h1, h2⟩ := ob_some.1 (show ob (flops (runCl F (run F fuel)) l [] [] fr h) (fun s => some (.normal, s)) = some (e, s) from hr)
      cases h2
      exact flops_abs (run_abs (F := F) hX fuel).2 l _ _ _ _ _ h1 k
    | back x d jb =>
      obtain ⟨v, hv, hr1⟩ := ob_some.1 (show rbBack F fuel B (.mk fr h) x d jb = some (e, s) from hr)
      obtain ⟨gf, caps, rfl, hr2⟩ := sFunc_some hr1
      obtain ⟨hb, hr3⟩ := oif_some.1 hr2
      match caps, hr3 with
      | [p], hr3 =>
        obtain ⟨c, hc1, hr4⟩ := ob_some.1 (show backAt F fuel fr h d jb p.1 p.2 = some (e, s) from hr3)
        match c, hr4 with
        | v0 :: rest, hr4 =>
          obtain ⟨⟨b, o, N, es⟩, _, hr5⟩ := ob_some.1 (show ob (bkSrc h v0) (fun q =>
                  oif (Nat.ble 1 q.2.2.1) (oif (Nat.ble q.2.2.1 1000000) (oif (asIs h p.1 p.2 q.1 q.2.1 q.2.2.1 q.2.2.2) (ob (rounds F fuel jb fr d p.1 p.2 q.1 q.2.1 q.2.2.1 q.2.2.2 q.2.2.1 h) (fun h' => some (.normal, .mk fr h'))) none) none) none) = some (e, s) from hr4)
          obtain ⟨_, hr5⟩ := oif_some.1 hr5
          obtain ⟨_, hr6⟩ := oif_some.1 hr5
          obtain ⟨_, hr8⟩ := oif_some.1 hr6
          obtain ⟨hfin, hrr, hr9⟩ := ob_some.1 hr8
          cases hr9
          exact ⟨_, _, rfl, rounds_abs hX N h hfin hrr k⟩
        | [], hr4 => cases hr4
      | [], hr3 => cases hr3
      | _ :: _ :: _, hr3 => cases hr3
end
end Go.Proofs.YtmaaalpegnhjcaaDoor.Ev

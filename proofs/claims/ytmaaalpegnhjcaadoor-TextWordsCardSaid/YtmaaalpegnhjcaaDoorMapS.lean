/- Maps whose keys are structs of numbers and bools: the interpreter's against the model's. No program in sight. -/
import Derived.Test.YtmaaalpegnhjcaaDoorPopS
import Derived.MapKept
namespace Go.Proofs.YtmaaalpegnhjcaaDoor.Ev
open Go
set_option linter.unusedVariables false
set_option linter.unusedSimpArgs false
theorem nwx_some {β : Type} {h : Hp} {x : AB} {f : Nat → Hp → Option β} {r : β} (k : nwx h x f = some r) :
    0 ≤ h.next ∧ inHid h.hid h.next = false ∧ f h.next (h.push x) = some r := by
  cases h with
  | mk n t lo hid =>
    have k' : oif (Nat.ble 0 n) (oif (inHid hid n) none (f n (.mk (Nat.succ n) (t.put (Nat.succ n) n (some x)) lo hid))) none = some r := k
    obtain ⟨h1, h2⟩ := oif_some.1 k'
    rw [oif_if] at h2
    split at h2
    · cases h2
    · rename_i h3; exact ⟨Nat.le_of_ble_eq_true h1, Bool.eq_false_iff.2 h3, h2⟩
theorem beqB_eq {a b : Bool} (h : beqB a b = true) : a = b := by cases a <;> cases b <;> first | rfl | cases h
section
variable {st fr : List AV} {h h' : Hp}
theorem lookRes_some {va okf b : Bool} {cs : List SV} {v : AV} (hv : lookRes h va okf cs b = some (v, h')) :
    h' = h ∧ ((okf = true ∧ v = .tup [(va, cs), (false, [.bool b])]) ∨ (okf = false ∧ mkAV va cs = some v)) := by
  unfold lookRes at hv
  cases okf with
  | true =>
    have hv' : some (AV.tup [(va, cs), (false, [.bool b])], h) = some (v, h') := hv
    simp only [Option.some.injEq, Prod.mk.injEq] at hv'
    exact ⟨hv'.2.symm, .inl ⟨rfl, hv'.1.symm⟩⟩
  | false =>
    obtain ⟨u, hu, h2⟩ := ob_some.1 (show ob (mkAV va cs) (fun v => ok v h) = some (v, h') from hv)
    have h3 : some (u, h) = some (v, h') := h2
    simp only [Option.some.injEq, Prod.mk.injEq] at h3
    exact ⟨h3.2.symm, .inr ⟨rfl, by rw [← h3.1]; exact hu⟩⟩
theorem opLook_some {sig : List Bool} {va : Bool} {z : List SV} {okf : Bool} {x k : Od} {v : AV} (hv : opLook st fr h sig va z okf x k = some (v, h')) :
    ∃ m kv, ev st fr x = some m ∧ ev st fr k = some kv ∧ celA (kag sig) kv (fun kc => oif (Nat.beq (llen kc) (llen sig)) (sMap m (lookRes h va okf z false) (fun b => ob (h.get b) (fun B => AB.casesOn (motive := fun _ => R) B (fun _ _ => none)
      (fun va' es => oif (beqB va va') (ob (mfind sig kc es) (fun r => Option.rec (motive := fun _ => R) (lookRes h va okf z false) (fun v => lookRes h va okf v true) r)) none)))) none) = some (v, h') := by
  obtain ⟨m, hm, h1⟩ := ob_some.1 hv
  obtain ⟨kv, hk, h2⟩ := ob_some.1 h1
  exact ⟨m, kv, hm, hk, h2⟩
/-- what is looked for, once the key's cells are known -/
theorem lookAt_some {sig : List Bool} {va : Bool} {z : List SV} {okf : Bool} {m : AV} {kc : List SV} {v : AV}
    (hv : sMap m (lookRes h va okf z false) (fun b => ob (h.get b) (fun B => AB.casesOn (motive := fun _ => R) B (fun _ _ => none)
      (fun va' es => oif (beqB va va') (ob (mfind sig kc es) (fun r => Option.rec (motive := fun _ => R) (lookRes h va okf z false) (fun v => lookRes h va okf v true) r)) none))) = some (v, h')) :
    (m = .s .nilMap ∧ lookRes h va okf z false = some (v, h')) ∨
    ∃ b es r, m = .s (.map b) ∧ h.get b = some (.map va es) ∧ mfind sig kc es = some r ∧ ((r = none ∧ lookRes h va okf z false = some (v, h')) ∨ ∃ vc, r = some vc ∧ lookRes h va okf vc true = some (v, h')) := by
  rcases sMap_some hv with ⟨h1, h2⟩ | ⟨b, rfl, h2⟩
  · exact .inl ⟨h1, h2⟩
  · obtain ⟨B, hB, h3⟩ := ob_some.1 h2
    cases B with
    | arr cs ty => cases h3
    | map va' es =>
      obtain ⟨h4, h5⟩ := oif_some.1 (show oif (beqB va va') (ob (mfind sig kc es) (fun r => Option.rec (motive := fun _ => R) (lookRes h va okf z false) (fun v => lookRes h va okf v true) r)) none = some (v, h') from h3)
      obtain rfl := beqB_eq h4
      obtain ⟨r, hr, h6⟩ := ob_some.1 h5
      refine .inr ⟨b, es, r, rfl, hB, hr, ?_⟩
      cases r with
      | none => exact .inl ⟨rfl, h6⟩
      | some vc => exact .inr ⟨vc, rfl, h6⟩
theorem celA_any {x : AV} {β : Type} {f : List SV → Option β} {g : Bool} {r : β} (h : celA g x f = some r) : ∃ cs, f cs = some r := by
  cases x with
  | s x =>
    have h' : oif g none (f [x]) = some r := h
    rw [oif_if] at h'
    split at h'
    · cases h'
    · exact ⟨_, h'⟩
  | agg l => exact ⟨l, (oif_some.1 (show oif g (f l) none = some r from h)).2⟩
  | _ => cases h
theorem look_heap {sig : List Bool} {va : Bool} {z : List SV} {okf : Bool} {x k : Od} {v : AV} (hv : opLook st fr h sig va z okf x k = some (v, h')) : h' = h := by
  obtain ⟨m, kv, _, _, h1⟩ := opLook_some hv
  obtain ⟨kc, h2⟩ := celA_any h1
  rcases lookAt_some (oif_some.1 h2).2 with ⟨_, h3⟩ | ⟨b, es, r, _, _, _, ⟨_, h3⟩ | ⟨vc, _, h3⟩⟩
  · exact (lookRes_some h3).1
  · exact (lookRes_some h3).1
  · exact (lookRes_some h3).1
theorem opMupd_some {sig : List Bool} {va : Bool} {x k u : Od} {v : AV} (hv : opMupd st fr h sig va x k u = some (v, h')) :
    ∃ m kv vv, ev st fr x = some m ∧ ev st fr k = some kv ∧ ev st fr u = some vv ∧ celA (kag sig) kv (fun kc => oif (Nat.beq (llen kc) (llen sig)) (celA va vv (fun vc => sMap m none (fun b => oif (Nat.ble h.lo b) (ob (h.get b) (fun B => AB.casesOn (motive := fun _ => R) B (fun _ _ => none)
      (fun va' es => oif (beqB va va') (ob (mset sig kc vc es) (fun es' => ok .undef (h.put b (some (.map va' es'))))) none))) none))) none) = some (v, h') := by
  obtain ⟨m, hm, h1⟩ := ob_some.1 hv
  obtain ⟨kv, hk, h2⟩ := ob_some.1 h1
  obtain ⟨vv, hu, h3⟩ := ob_some.1 h2
  exact ⟨m, kv, vv, hm, hk, hu, h3⟩
theorem mupdAt_some {sig : List Bool} {va : Bool} {m : AV} {kc vc : List SV} {v : AV}
    (hv : sMap m none (fun b => oif (Nat.ble h.lo b) (ob (h.get b) (fun B => AB.casesOn (motive := fun _ => R) B (fun _ _ => none)
      (fun va' es => oif (beqB va va') (ob (mset sig kc vc es) (fun es' => ok .undef (h.put b (some (.map va' es'))))) none))) none) = some (v, h')) :
    ∃ b es es', m = .s (.map b) ∧ h.lo ≤ b ∧ h.get b = some (.map va es) ∧ mset sig kc vc es = some es' ∧ v = .undef ∧ h' = h.put b (some (.map va es')) := by
  rcases sMap_some hv with ⟨h1, h2⟩ | ⟨b, rfl, h2⟩
  · cases h2
  · obtain ⟨h3, h4⟩ := oif_some.1 h2
    obtain ⟨B, hB, h5⟩ := ob_some.1 h4
    cases B with
    | arr cs ty => cases h5
    | map va' es =>
      obtain ⟨h6, h7⟩ := oif_some.1 (show oif (beqB va va') (ob (mset sig kc vc es) (fun es' => ok .undef (h.put b (some (.map va' es'))))) none = some (v, h') from h5)
      obtain rfl := beqB_eq h6
      obtain ⟨es', h8, h9⟩ := ob_some.1 h7
      have h10 : some (AV.undef, h.put b (some (.map va es'))) = some (v, h') := h9
      simp only [Option.some.injEq, Prod.mk.injEq] at h10
      exact ⟨b, es, es', rfl, Nat.le_of_ble_eq_true h3, hB, h8, h10.1.symm, h10.2.symm⟩
theorem mupd_heap {sig : List Bool} {va : Bool} {x k u : Od} {v : AV} (hv : opMupd st fr h sig va x k u = some (v, h')) :
    ∃ b es es', h.lo ≤ b ∧ h.get b = some (.map va es) ∧ h' = h.put b (some (.map va es')) ∧ v = .undef := by
  obtain ⟨m, kv, vv, _, _, _, h1⟩ := opMupd_some hv
  obtain ⟨kc, h2⟩ := celA_any h1
  obtain ⟨vc, h3⟩ := celA_any (oif_some.1 h2).2
  obtain ⟨b, es, es', _, h4, h5, _, h6, h7⟩ := mupdAt_some h3
  exact ⟨b, es, es', h4, h5, h7, h6⟩
end

/-! ### the heap relation -/
section
variable {P : Program} {T : Tr TI} {w w' : World} {A : Nat → Int} {φ : Phi} {h h' : Hp}
theorem Rel.pushx (k : Rel A φ h w) (h1 : 0 ≤ h.next) (h2 : inHid h.hid h.next = false) {x : AB} {L : Lc} (hLb : L.b = w.heap.size)
    (os : w'.os = w.os) (tape : w'.tape = w.tape) (output : w'.output = w.output) (size : w'.heap.size = w.heap.size + 1) (old : ∀ b, b < w.heap.size → w'.heap[b]? = w.heap[b]?)
    (hx : NmR A (φ.add h.next L) h.next x w') :
    Step (fun _ => False) φ (φ.add h.next L) h (h.push x) w w' ∧ Rel A (φ.add h.next L) (h.push x) w' := by
  have hle := k.le_add L
  have hget : ∀ n, n ≠ h.next → (h.push x).get n = h.get n := fun n hn => by
    rw [Hp.get_eq, Hp.get_eq, k.wf.push_ne h1 _ hn]; rfl
  have hkn : φ.k L.b = none := by
    cases e : φ.k L.b with
    | none => rfl
    | some cs => exact absurd (k.conLt e) (by omega)
  refine ⟨⟨Abs.push _ k.wf h1 h2 _, fun n hn => Phi.add_ne _ _ (by omega), fun _ _ e => e, fun _ _ e => .inl e, os, tape, output, by rw [size]; omega, fun b hb _ => old b hb, fun n M hn hs hM => ?_⟩, ⟨k.wf.push h1 _, fun n hn => ?_, fun n y hy => ?_, ?_, fun b cs' e => ?_, fun n M hn hM => ?_⟩⟩
  · by_cases e : n = h.next
    · subst e; rw [Phi.add_same] at hM; cases hM; exact .inl (by rw [hLb]; exact Nat.le_refl _)
    · rw [Phi.add_ne _ _ e, k.dom n hn] at hM; cases hM
  · simp at hn; rw [Phi.add_ne _ _ (by omega)]; exact k.dom n (by omega)
  · by_cases e : n = h.next
    · subst e
      obtain ⟨_, hy⟩ := Hp.get_some hy
      rw [k.wf.push_same h1] at hy
      cases hy
      exact hx
    · rw [hget n e] at hy
      exact ((k.blk n y hy).mono hle).world (fun M hM => by
        rw [Phi.add_ne _ _ e] at hM
        obtain ⟨M', hM', hb⟩ := (k.blk n y hy).some_loc
        rw [hM] at hM'; cases hM'
        exact old _ hb)
  · have key : ∀ n m L1 M, n = h.next → m ≠ h.next → ((h.push x).get m).isSome = true → φ.add h.next L n = some L1 → φ.add h.next L m = some M → L1.b ≠ M.b := by
      intro n m L1 M en em hm hL hM
      subst en
      rw [hget m em] at hm
      rw [Phi.add_same] at hL
      rw [Phi.add_ne _ _ em] at hM
      cases hL
      obtain ⟨M', hM', hb⟩ := k.loc hm
      rw [hM] at hM'; cases hM'
      exact fun e => by omega
    intro n m L1 M hn hm hL hM e
    by_cases en : n = h.next
    · by_cases em : m = h.next
      · rw [en, em]
      · exact absurd e (key n m L1 M en em hm hL hM)
    · by_cases em : m = h.next
      · exact absurd e.symm (key m n M L1 em en hn hM hL)
      · rw [hget n en] at hn
        rw [hget m em] at hm
        rw [Phi.add_ne _ _ en] at hL
        rw [Phi.add_ne _ _ em] at hM
        exact k.inj n m L1 M hn hm hL hM e
  · have e' : φ.k b = some cs' := e
    obtain ⟨ty', h3⟩ := k.con b cs' e'
    exact ⟨ty', by rw [old b (k.conLt e')]; exact h3⟩
  · show φ.k M.b = none
    by_cases en : n = h.next
    · subst en
      rw [Phi.add_same] at hM
      cases hM
      exact hkn
    · rw [hget n en] at hn
      rw [Phi.add_ne _ _ en] at hM
      exact k.sep n M hn hM
theorem Rel.putx (k : Rel A φ h w) {b : Nat} {y x : AB} (hg : h.get b = some y) {L : Lc} (h1 : φ b = some L)
    (os : w'.os = w.os) (tape : w'.tape = w.tape) (output : w'.output = w.output) (size : w'.heap.size = w.heap.size) (old : ∀ p, p ≠ L.b → w'.heap[p]? = w.heap[p]?)
    (hx : NmR A φ b x w') : Step (fun n => n = b) φ φ h (h.put b (some x)) w w' ∧ Rel A φ (h.put b (some x)) w' := by
  have hgs : (h.get b).isSome = true := by rw [hg]; rfl
  obtain ⟨e1, e2⟩ := Hp.get_isSome hgs
  have hget : ∀ n, n ≠ b → (h.put b (some x)).get n = h.get n := fun n hn => by
    rw [Hp.get_eq, Hp.get_eq, k.wf.put_ne e2 _ hn, Hp.hid_put]
  have hsame : ∀ n, ((h.put b (some x)).get n).isSome = true → (h.get n).isSome = true := fun n hn => by
    by_cases e : n = b
    · subst e; exact hgs
    · rwa [hget n e] at hn
  refine ⟨⟨Abs.put k.wf hgs _, fun _ _ => rfl, fun _ _ e => e, fun _ _ e => .inl e, os, tape, output, by rw [size]; exact Nat.le_refl _, fun p hp hv => ?_, fun n L a b c => by rw [k.dom n a] at c; cases c⟩, ⟨k.wf.put e2 _, by simpa using k.dom, fun n z hz => ?_, fun n m L M hn hm => k.inj n m L M (hsame n hn) (hsame m hm), fun p cs' e => ?_, fun n M hn hM => k.sep n M (hsame n hn) hM⟩⟩
  · exact old p (fun e => hv b L rfl hgs h1 e.symm)
  · by_cases e : n = b
    · subst e
      obtain ⟨_, hz⟩ := Hp.get_some hz
      rw [k.wf.put_same e2] at hz
      cases hz
      exact hx
    · rw [hget n e] at hz
      refine (k.blk n z hz).world (fun M hM => old _ (fun e' => e ?_))
      exact k.inj n b M L (by rw [hz]; rfl) hgs hM h1 e'
  · obtain ⟨ty', h7⟩ := k.con p cs' e
    exact ⟨ty', by rw [old p (fun e' => by have := k.sep b L hgs h1; rw [← e', e] at this; cases this)]; exact h7⟩

/-! ### keys -/
theorem kag_len {α β : Type} : ∀ {l : List α} {r : List β}, l.length = r.length → kag l = kag r
  | [], [], _ => rfl
  | [_], [_], _ => rfl
  | _ :: _ :: _, _ :: _ :: _, _ => rfl
  | [], _ :: _, h => by simp at h
  | _ :: _, [], h => by simp at h
  | [_], _ :: _ :: _, h => by simp at h
  | _ :: _ :: _, [_], h => by simp at h
/-- a key's type: a struct of not just one cell, or numbers -/
def KeyD (d : TypeDesc) (sig : List Bool) : Prop := (∃ fs, d = .struct fs ∧ kag sig = true) ∨ (∃ k, d = .int k ∧ sig = [false])
theorem mapOf_some {T : Tr TI} (hT : Tys P T) {t : TypeId} {x : List Bool × TI} (h : mapOf T t = some x) :
    ∃ kt e d, P.underlying t = some (.map kt e) ∧ P.underlying kt = some d ∧ KeyD d x.1 ∧ eqSig P 10000 kt = some x.1 ∧ TIok P e x.2 ∧ ti1 x.2 = true := by
  unfold mapOf at h
  split at h
  · rename_i ti hti
    split at h
    · rename_i k e he
      split at h
      · rename_i q z hq hz
        obtain ⟨d, h1, h2⟩ := (hT t ti hti).und
        rw [he] at h2
        obtain ⟨d', h6, hko⟩ := (hT _ q hq).und
        cases hz1 : ti1 z with
        | false => rw [hz1] at h; cases h
        | true =>
          rw [hz1] at h
          simp only [cond_true] at h
          split at h
          · rename_i kk hkk
            cases h
            rw [hkk] at hko
            have hko' : d' = .int kk := hko
            subst hko'
            refine ⟨k, e, _, h1.trans (congrArg some h2), h6, .inr ⟨kk, rfl, rfl⟩, ?_, hT _ _ hz, hz1⟩
            show eqSig P (9999 + 1) k = _
            unfold eqSig
            rw [h6]
          · split at h
            · rename_i s hs
              cases hb : q.agg && (kag s && isStructK q.kind) with
              | false => rw [hb] at h; cases h
              | true =>
                rw [hb] at h
                cases h
                simp only [Bool.and_eq_true] at hb
                obtain ⟨h3, _⟩ := (hT _ q hq).eq s hs
                obtain ⟨i, zz, d2, _, _, _, _, _, h6', h7, _⟩ := (hT _ q hq).ex
                have : ∃ fs, d2 = .struct fs := by
                  obtain ⟨fs0, hfs0⟩ : ∃ fs, q.kind = .struct fs := by
                    have h8 := hb.2.2
                    cases hk : q.kind <;> rw [hk] at h8 <;> first | exact ⟨_, rfl⟩ | cases h8
                  rw [hfs0] at hko
                  obtain ⟨fields, hd', _⟩ := hko
                  rw [h6] at h6'
                  exact ⟨fields, (Option.some.inj h6').symm.trans hd'⟩
                obtain ⟨fs, rfl⟩ := this
                exact ⟨k, e, _, h1.trans (congrArg some h2), h6', .inl ⟨fs, rfl, hb.2.1⟩, h3, hT _ _ hz, hz1⟩
            · cases h
      · cases h
    · cases h
  · cases h
theorem checkIn_sound : ∀ (d : Nat) (t : TypeId) (sig : List Bool), eqSig P d t = some sig → ∀ (xs : List Value) (x : Value) (em : Bool), xs.length = sig.length →
    shapeV P t xs x → (Instr.checkKey em d t x).run P w = .ok () w := by
  intro d
  induction d with
  | zero => intro t sig h; cases h
  | succ d ih =>
    intro t sig h xs x em hl sx
    unfold eqSig at h
    split at h
    · rename_i hu
      simp only [shapeV, hu] at sx
      simp [Instr.checkKey, run_underlying hu]
    · rename_i k hu
      simp only [shapeV, hu] at sx
      simp [Instr.checkKey, run_underlying hu]
    · rename_i fs hu
      split at h
      · cases h
      rename_i hst
      simp only [shapeV, hu] at sx
      subst sx
      have fields : ∀ (l : List Field) (off : Nat) (sig : List Bool), sigFields P (eqSig P d) l off = some sig → off + sig.length ≤ xs.length →
          (forIn l PUnit.unit (fun f (_ : PUnit) => (do
            if f.name ≠ "_" then Instr.checkKey em d f.type (← part f.type xs.toArray f.offset)
            pure (ForInStep.yield PUnit.unit) : Sem (ForInStep PUnit)))).run P w = .ok PUnit.unit w := by
        intro l
        induction l with
        | nil => intro off sig _ _; rfl
        | cons f l ihl =>
          intro off sig h hoff
          unfold sigFields at h
          split at h
          · cases h
          rename_i hn
          split at h
          · cases h
          rename_i ho
          have ho' : f.offset = off := by simpa using ho
          split at h
          · rename_i s i hs hi
            split at h
            · rename_i hsz0
              obtain ⟨hsz, hs0⟩ := hsz0
              split at h
              · rename_i r hr
                cases h
                simp only [List.length_append] at hoff
                obtain ⟨a, pa, sa⟩ := part_shape (w := w) hs hi hsz (xs := xs) (off := off) (by omega)
                have h1 := ih f.type s hs _ a em (by simp; omega) sa
                have h2 := ihl (off + s.length) r hr (by omega)
                simp only [List.forIn_cons, Sem.run_bind, ho', hn, ne_eq, not_false_eq_true, if_true, pa, Result.andThen_ok, h1, Sem.run_pure]
                exact h2
              · cases h
            · cases h
          · cases h
      have := fields fs.toList 0 sig h (by omega)
      simp only [Instr.checkKey, Sem.run_bind, run_underlying hu, Result.andThen_ok]
      simp at this
      simp
      rw [this]
      rfl
    · rename_i n el hu
      split at h
      · rename_i hc
        obtain ⟨hs, hi⟩ := hc
        cases h
        obtain ⟨i, hi, hsz⟩ := Option.map_eq_some_iff.1 hi
        simp only [shapeV, hu] at sx
        subst sx
        simp only [List.length_replicate] at hl
        have one : ∀ j, j < n → ∃ a, (part el xs.toArray (j * P.cellsOf el)).run P w = .ok a w ∧ (Instr.checkKey em d el a).run P w = .ok () w := fun j hj => by
          obtain ⟨a, pa, sa⟩ := part_shape (w := w) hs hi hsz (xs := xs) (off := j) (by simp; omega)
          rw [show P.cellsOf el = 1 by simp [Program.cellsOf, hi, hsz], Nat.mul_one]
          exact ⟨a, pa, ih el [false] hs _ a em (by simp; omega) sa⟩
        have items : ∀ (m off : Nat), off + m ≤ n → (forIn (List.range' off m) PUnit.unit (fun j (_ : PUnit) => (do
            Instr.checkKey em d el (← part el xs.toArray (j * (← sizeOf el)))
            pure (ForInStep.yield PUnit.unit) : Sem (ForInStep PUnit)))).run P w = .ok PUnit.unit w := by
          intro m
          induction m with
          | zero => intro off _; rfl
          | succ m ihm =>
            intro off hoff
            obtain ⟨a, pa, ca⟩ := one off (by omega)
            rw [List.range'_succ]
            simp only [List.forIn_cons, Sem.run_bind, run_sizeOf w hi, pa, Result.andThen_ok, ca, Sem.run_pure]
            exact ihm (off + 1) (by omega)
        have := items n 0 (by omega)
        simp only [Instr.checkKey, Sem.run_bind, run_underlying hu, Result.andThen_ok, Std.Legacy.Range.forIn_eq_forIn_range', Std.Legacy.Range.size, Nat.sub_zero, Nat.add_one_sub_one, Nat.div_one]
        simp at this
        simp
        rw [this]
        rfl
      · cases h
    · cases h
/-! ### finding -/
theorem eqCells_same : ∀ {sig : List Bool} {cs ds : List SV} {xs ys : List Value}, eqCells sig cs ds = some true → All2 (cS A φ) cs xs → All2 (cS A φ) ds ys → ys = xs
  | [], cs, ds, xs, ys, h, hx, hy => by
    obtain ⟨rfl, rfl, _⟩ := eqCells_nil h
    cases hx; cases hy; rfl
  | s :: sig, cs, ds, xs, ys, h, hx, hy => by
    obtain ⟨a, l', b, r', e1, e2, rfl, rfl, h1, h2, h3⟩ := eqCells_cons h
    have h3' : e1 = true ∧ e2 = true := by simpa using h3.symm
    obtain ⟨rfl, rfl⟩ := h3'
    cases hx with
    | @cons _ x _ xs hx hxr =>
    cases hy with
    | @cons _ y _ ys hy hyr =>
    have ih := eqCells_same h2 hxr hyr
    have : y = x := by
      rcases eqSV_sound h1 hx hy with ⟨_, p, q, rfl, rfl, e⟩ | ⟨_, k, m, n, rfl, rfl, e⟩
      · have : p = q := by simpa using e.symm
        rw [this]
      · have : m = n := by simpa using e.symm
        rw [this]
    rw [ih, this]
def keyV (A : Nat → Int) (φ : Phi) (va : Bool) (p : List SV × List SV) (e : MapEntry) : Prop := cV1 A φ (kag p.1) p.1 e.key ∧ cV1 A φ va p.2 e.val
theorem cV1_key {cs : List SV} {v : Value} (k : cV1 A φ (kag cs) cs v) : ∃ vs : List Value, All2 (cS A φ) cs vs ∧ ((kag cs = true ∧ v = .agg vs.toArray) ∨ (kag cs = false ∧ vs = [v])) := by
  unfold cV1 at k
  cases hk : kag cs with
  | true => rw [hk, if_pos rfl] at k; obtain ⟨vs, e, h⟩ := k; exact ⟨vs, h, .inl ⟨rfl, e⟩⟩
  | false =>
    rw [hk] at k
    simp only [Bool.false_eq_true, if_false] at k
    obtain ⟨x, e, h⟩ := k
    subst e
    exact ⟨[v], .cons h .nil, .inr ⟨rfl, rfl⟩⟩
theorem key_shape {kt : TypeId} {d : TypeDesc} (hu : P.underlying kt = some d) {sig : List Bool} (hd : KeyD d sig) {cs : List SV} {xs : List Value} {v : Value} (hl : cs.length = sig.length)
    (h : (kag cs = true ∧ v = .agg xs.toArray) ∨ (kag cs = false ∧ xs = [v])) : shapeV P kt xs v := by
  have hk := kag_len hl
  rcases hd with ⟨fs, rfl, hs⟩ | ⟨k, rfl, rfl⟩
  · rw [hs] at hk
    rcases h with ⟨_, h⟩ | ⟨h, _⟩
    · simp only [shapeV, hu]; exact h
    · rw [hk] at h; cases h
  · rcases h with ⟨h, _⟩ | ⟨_, h⟩
    · rw [hk] at h; cases h
    · simp only [shapeV, hu]; exact h
theorem equal_sound {kt : TypeId} {d : TypeDesc} (hu : P.underlying kt = some d) {sig : List Bool} (hd : KeyD d sig) (hs : eqSig P 10000 kt = some sig) {cs ds : List SV} {x y : Value} {e : Bool}
    (hx : cV1 A φ (kag cs) cs x) (hy : cV1 A φ (kag ds) ds y) (he : eqCells sig cs ds = some e) : (Op.equal kt x y).run P w = .ok e w := by
  obtain ⟨xs, hx1, hx2⟩ := cV1_key hx
  obtain ⟨ys, hy1, hy2⟩ := cV1_key hy
  obtain ⟨l1, l2⟩ := eqCells_len he
  exact eqIn_sound 10000 kt sig hs cs ds xs ys _ _ e hx1 hy1 he (key_shape hu hd l1 hx2) (key_shape hu hd l2 hy2)
theorem findAsking_sound {kt : TypeId} {d : TypeDesc} (hu : P.underlying kt = some d) {sig : List Bool} (hd : KeyD d sig) (hs : eqSig P 10000 kt = some sig) {kc : List SV} {k : Value} (hk : cV1 A φ (kag kc) kc k) {va : Bool} :
    ∀ (es : List (List SV × List SV)) (es' : List MapEntry) (i : Nat) (r : Option (List SV)), All2 (keyV A φ va) es es' → mfind sig kc es = some r →
      ∃ rr, (Instr.findAsking kt k es' i).run P w = .ok rr w ∧ ((r = none ∧ rr = none) ∨ ∃ vc j v, r = some vc ∧ rr = some (j, v) ∧ cV1 A φ va vc v)
  | [], _, i, r, ha, h => by
    cases ha
    cases (show some none = some r from h)
    exact ⟨none, rfl, .inl ⟨rfl, rfl⟩⟩
  | p :: es, _, i, r, ha, h => by
    cases ha with
    | @cons _ e _ es' hp hrest =>
    obtain ⟨b, hb, h1⟩ := ob_some.1 (show ob (eqCells sig kc p.1) (fun b => oif b (some (some p.2)) (mfind sig kc es)) = some r from h)
    have he := equal_sound (w := w) hu hd hs hk hp.1 hb
    cases b with
    | true =>
      cases (show some (some p.2) = some r from h1)
      exact ⟨some (i, e.val), by simp [Instr.findAsking, he], .inr ⟨_, _, _, rfl, rfl, hp.2⟩⟩
    | false =>
      obtain ⟨rr, h2, h3⟩ := findAsking_sound hu hd hs hk es es' (i + 1) r hrest h1
      exact ⟨rr, by simp [Instr.findAsking, he, h2], h3⟩
/-- the entries up to the one that is found can be asked -/
def Asks (sig : List Bool) (kc : List SV) : List (List SV × List SV) → Prop
  | [] => True
  | p :: es => ∃ b, eqCells sig kc p.1 = some b ∧ (b = false → Asks sig kc es)
theorem mfind_asks {sig : List Bool} {kc : List SV} : ∀ {es : List (List SV × List SV)} {r : Option (List SV)}, mfind sig kc es = some r → Asks sig kc es
  | [], _, _ => trivial
  | p :: es, r, h => by
    obtain ⟨b, hb, h1⟩ := ob_some.1 (show ob (eqCells sig kc p.1) (fun b => oif b (some (some p.2)) (mfind sig kc es)) = some r from h)
    refine ⟨b, hb, fun e => ?_⟩
    subst e
    exact mfind_asks (show mfind sig kc es = some r from h1)
theorem mset_asks {sig : List Bool} {kc vc : List SV} : ∀ {es : List (List SV × List SV)} {r : List (List SV × List SV)}, mset sig kc vc es = some r → Asks sig kc es
  | [], _, _ => trivial
  | p :: es, r, h => by
    obtain ⟨b, hb, h1⟩ := ob_some.1 (show ob (eqCells sig kc p.1) (fun b => oif b (some ((p.1, vc) :: es)) (ob (mset sig kc vc es) (fun l => some (p :: l)))) = some r from h)
    refine ⟨b, hb, fun e => ?_⟩
    subst e
    obtain ⟨l, hl, _⟩ := ob_some.1 h1
    exact mset_asks hl
theorem findNow_int {kt : TypeId} {kk : IntKind} (hu : P.underlying kt = some (.int kk)) (hs : eqSig P 10000 kt = some [false]) {kc : List SV} {k : Value} (hk : cV1 A φ (kag kc) kc k) {va : Bool} :
    ∀ (es : List (List SV × List SV)) (es' : List MapEntry) (i : Nat), All2 (keyV A φ va) es es' → Asks [false] kc es →
      ∃ rr, Instr.findNow (.int kk) k es' i = some rr ∧ (Instr.findAsking kt k es' i).run P w = .ok rr w
  | [], _, i, ha, h => by
    cases ha
    exact ⟨none, rfl, rfl⟩
  | p :: es, _, i, ha, h => by
    cases ha with
    | @cons _ e _ es' hp hrest =>
    obtain ⟨b, hb, h1⟩ := h
    have he := equal_sound (w := w) hu (.inr ⟨kk, rfl, rfl⟩) hs hk hp.1 hb
    obtain ⟨l1, l2⟩ := eqCells_len hb
    have hx := hk
    have hy := hp.1
    rw [show kag kc = false from kag_len (r := [false]) l1] at hx
    rw [show kag p.1 = false from kag_len (r := [false]) l2] at hy
    unfold cV1 at hx hy
    simp only [Bool.false_eq_true, if_false] at hx hy
    obtain ⟨x, ex, hx⟩ := hx
    obtain ⟨y, ey, hy⟩ := hy
    rw [ex, ey] at hb
    obtain ⟨a, l', b', r', e1, e2, q1, q2, g1, g2, g3⟩ := eqCells_cons hb
    cases q1; cases q2
    obtain ⟨_, _, rfl⟩ := eqCells_nil g2
    have hsn : Instr.sameNow (.int kk) k e.key = some b := by
      rcases eqSV_sound g1 hx hy with ⟨q, _⟩ | ⟨_, k', m, n, h5, h6, rfl⟩
      · cases q
      · rw [h5, h6, g3]; simp [Instr.sameNow]
    cases b with
    | true => exact ⟨some (i, e.val), by simp [Instr.findNow, hsn], by simp [Instr.findAsking, he]⟩
    | false =>
      obtain ⟨rr, h2, h3⟩ := findNow_int hu hs hk es es' (i + 1) hrest (h1 rfl)
      exact ⟨rr, by simp [Instr.findNow, hsn, h2], by simp [Instr.findAsking, he, h3]⟩
theorem findKey_ask {kt : TypeId} {d : TypeDesc} (hu : P.underlying kt = some d) {sig : List Bool} (hd : KeyD d sig) (hs : eqSig P 10000 kt = some sig) {kc : List SV} {k : Value} (hk : cV1 A φ (kag kc) kc k) {va : Bool}
    {es : List (List SV × List SV)} {es' : List MapEntry} (ha : All2 (keyV A φ va) es es') (hm : Asks sig kc es) {rr : Option (Nat × Value)} (h : (Instr.findAsking kt k es' 0).run P w = .ok rr w) :
    (Instr.findKey kt k es').run P w = .ok rr w := by
  rcases hd with ⟨fs, rfl, _⟩ | ⟨kk, rfl, rfl⟩
  · cases es' with
    | nil =>
      have : rr = none := by
        have h' : Result.ok none w = Result.ok rr w := h
        cases h'; rfl
      subst this
      simp [Instr.findKey, run_underlying hu, Instr.findNow]
    | cons e es' =>
      have : Instr.findNow (.struct fs) k (e :: es') 0 = none := by
        simp [Instr.findNow, Instr.sameNow]
      simp [Instr.findKey, run_underlying hu, this, h]
  · obtain ⟨r2, h2, h3⟩ := findNow_int (w := w) hu hs hk es es' 0 ha hm
    have : r2 = rr := by
      rw [h] at h3
      injection h3 with h3
      exact h3.symm
    subst this
    simp [Instr.findKey, run_underlying hu, h2]
theorem mset_sound {kt : TypeId} {d : TypeDesc} (hu : P.underlying kt = some d) {sig : List Bool} (hd : KeyD d sig) (hs : eqSig P 10000 kt = some sig) {kc vc : List SV} {k v : Value} (hk : cV1 A φ (kag kc) kc k) {va : Bool} (hv : cV1 A φ va vc v) :
    ∀ (es : List (List SV × List SV)) (es' : List MapEntry) (i : Nat) (r : List (List SV × List SV)), All2 (keyV A φ va) es es' → mset sig kc vc es = some r →
      ((Instr.findAsking kt k es' i).run P w = .ok none w ∧ ∀ born, All2 (keyV A φ va) r (es' ++ [{ key := k, val := v, born }])) ∨
      ∃ j e, (Instr.findAsking kt k es' i).run P w = .ok (some (i + j, e.val)) w ∧ es'[j]? = some e ∧ e.key = k ∧ (∃ ds, eqCells sig kc ds = some true) ∧ All2 (keyV A φ va) r (es'.set j { e with key := k, val := v })
  | [], _, i, r, ha, h => by
    cases ha
    cases (show some [(kc, vc)] = some r from h)
    exact .inl ⟨rfl, fun born => .cons ⟨hk, hv⟩ .nil⟩
  | p :: es, _, i, r, ha, h => by
    cases ha with
    | @cons _ e _ es' hp hrest =>
    obtain ⟨b, hb, h1⟩ := ob_some.1 (show ob (eqCells sig kc p.1) (fun b => oif b (some ((p.1, vc) :: es)) (ob (mset sig kc vc es) (fun l => some (p :: l)))) = some r from h)
    have he := equal_sound (w := w) hu hd hs hk hp.1 hb
    cases b with
    | true =>
      cases (show some ((p.1, vc) :: es) = some r from h1)
      have hkey : e.key = k := by
        obtain ⟨xs, hx, hx2⟩ := cV1_key hk
        obtain ⟨ys, hy, hy2⟩ := cV1_key hp.1
        obtain ⟨l1, l2⟩ := eqCells_len hb
        have hkk : kag kc = kag p.1 := kag_len (l1.trans l2.symm)
        have hxy := eqCells_same hb hx hy
        subst hxy
        rcases hx2 with ⟨g1, g2⟩ | ⟨g1, g2⟩ <;> rcases hy2 with ⟨g3, g4⟩ | ⟨g3, g4⟩
        · rw [g2, g4]
        · rw [hkk, g3] at g1; cases g1
        · rw [hkk, g3] at g1; cases g1
        · rw [g2] at g4; exact (List.cons.inj g4).1.symm
      refine .inr ⟨0, e, by simp [Instr.findAsking, he], rfl, hkey, ⟨_, hb⟩, ?_⟩
      exact .cons ⟨by show cV1 A φ (kag p.1) p.1 k; rw [← hkey]; exact hp.1, hv⟩ hrest
    | false =>
      obtain ⟨l, hl, h2⟩ := ob_some.1 h1
      cases h2
      rcases mset_sound hu hd hs hk hv es es' (i + 1) l hrest hl with ⟨h3, h4⟩ | ⟨j, e', h3, h4, h5, h7, h6⟩
      · exact .inl ⟨by simp [Instr.findAsking, he, h3], fun born => .cons hp (h4 born)⟩
      · refine .inr ⟨j + 1, e', ?_, by simpa using h4, h5, h7, .cons hp h6⟩
        simp [Instr.findAsking, he, h3]
        omega
/-- a flat value is the same as itself, bit by bit -/
theorem sameBits_flat : ∀ {sig : List Bool} {cs ds : List SV} {xs : List Value}, eqCells sig cs ds = some true → All2 (cS A φ) cs xs → ∀ n, (xs.zip xs).all (fun (x, y) => Instr.sameBits n x y) = true
  | [], cs, ds, xs, h, ha, n => by
    obtain ⟨rfl, rfl, _⟩ := eqCells_nil h
    cases ha; rfl
  | s :: sig, cs, ds, xs, h, ha, n => by
    obtain ⟨a, l', b, r', e1, e2, rfl, rfl, h1, h2, h3⟩ := eqCells_cons h
    have h3' : e1 = true ∧ e2 = true := by simpa using h3.symm
    obtain ⟨rfl, rfl⟩ := h3'
    cases ha with
    | @cons _ x _ xs hx hrest =>
    have ih := sameBits_flat h2 hrest n
    have hb : Instr.sameBits n x x = true := by
      cases s with
      | true =>
        obtain ⟨p, rfl, _⟩ := vBool_some (show vBool a (fun x => vBool b (fun y => some (oif x y (bnot y)))) = some true from h1)
        cases (show x = .bool p from hx)
        cases n <;> simp [Instr.sameBits]
      | false =>
        obtain ⟨k, m, rfl, _⟩ := vInt_some (show vInt a (fun k m => vInt b (fun k' n => oif (Nat.beq (ikn k) (ikn k')) (some (ieq m n)) none)) = some true from h1)
        cases (show x = .int k m from hx)
        cases n <;> simp [Instr.sameBits]
    simp only [List.zip_cons_cons, List.all_cons, hb, Bool.true_and]
    exact ih
theorem stays_sound {sig : List Bool} {kc ds : List SV} {k : Value} (hk : cV1 A φ (kag kc) kc k) (he : eqCells sig kc ds = some true) : (Instr.keyThatStays k k).run P w = .ok k w := by
  obtain ⟨xs, hx, hx2⟩ := cV1_key hk
  rcases hx2 with ⟨_, rfl⟩ | ⟨_, rfl⟩
  · have : Instr.sameBits 10000 (.agg xs.toArray) (.agg xs.toArray) = true := by
      show Instr.sameBits (9999 + 1) (.agg xs.toArray) (.agg xs.toArray) = true
      unfold Instr.sameBits
      simp only [BEq.rfl, Bool.true_and]
      exact sameBits_flat he hx 9999
    simp [Instr.keyThatStays, this]
  · have := sameBits_flat he hx 10000
    simp only [List.zip_cons_cons, List.zip_nil_right, List.all_cons, List.all_nil, Bool.and_true] at this
    simp [Instr.keyThatStays, this]
theorem TIok.run_zero1 {e : TypeId} {z : TI} (k : TIok P e z) : ∃ zv, (zeroValue e).run P w = .ok zv w ∧ cV1 A φ z.agg z.zero zv := by
  obtain ⟨i, zv, d, h1, h2, h3, h4, h5, _⟩ := k.ex
  have hs := k.shape i zv h1 h2
  refine ⟨zv, by simp [zeroValue, typeInfo, h1, h2], ?_⟩
  have ha := h5 A φ
  unfold cV1
  rw [← hs]
  cases zv with
  | agg cs => exact ⟨cs.toList, by simp, ha⟩
  | _ =>
    simp only [isAggV, Bool.false_eq_true, if_false]
    revert ha
    generalize z.zero = zs
    intro ha
    cases ha with
    | cons hx hn => cases hn; exact ⟨_, rfl, hx⟩
theorem lookRes_sound {va okf b : Bool} {cs : List SV} {v : AV} (hv : lookRes h va okf cs b = some (v, h')) {u : Value} (hu : cV1 A φ va cs u) :
    cV A φ v (if okf = true then .tuple #[u, .bool b] else u) := by
  rcases (lookRes_some hv).2 with ⟨rfl, rfl⟩ | ⟨rfl, hm⟩
  · exact ⟨[u, .bool b], rfl, .cons hu (.cons (by unfold cV1; exact ⟨_, rfl, rfl⟩) .nil)⟩
  · simp only [Bool.false_eq_true, if_false]
    unfold cV1 at hu
    rcases mkAV_some hm with ⟨rfl, rfl⟩ | ⟨rfl, s, rfl, rfl⟩
    · rw [if_pos rfl] at hu; exact hu
    · simp only [Bool.false_eq_true, if_false] at hu
      obtain ⟨x, e, hx⟩ := hu
      cases e
      exact hx
theorem modify_set (es : Array MapEntry) (j : Nat) (e : MapEntry) (f : MapEntry → MapEntry) (h : es.toList[j]? = some e) : (es.modify j f).toList = es.toList.set j (f e) := by
  apply List.ext_getElem?
  intro i
  rw [Array.getElem?_toList, Array.getElem?_modify, List.getElem?_set]
  rw [Array.getElem?_toList] at h
  split
  · rename_i hij
    subst hij
    have : j < es.toList.length := by simpa using (Array.getElem?_eq_some_iff.1 h).1
    rw [h, if_pos this]
    rfl
  · rw [Array.getElem?_toList]
end
end Go.Proofs.YtmaaalpegnhjcaaDoor.Ev

/- What the interpreter leaves of its own heap, whatever the world. No program in sight. -/
import Derived.Test.YtmaaalpegnhjcaaDoorStep
namespace Go.Proofs.YtmaaalpegnhjcaaDoor.Ev
open Go
set_option linter.unusedVariables false
section
variable {h h' : Hp} {st fr : List AV} {W V : Nat → Prop}
def ClAbs (cl : FuncId → List AV → Hp → R) : Prop := ∀ f vs h v h', WF h → cl f vs h = some (v, h') → Abs (fun n => h.lo ≤ n) h h'
theorem Abs.any (k : Abs (fun _ => False) h h') : Abs W h h' := k.mono (fun _ h => h.elim)
theorem abs_nw (k : WF h) {cs : List SV} {ty : TypeId} {g : Nat → AV} {v : AV} (hv : nw h cs ty (fun n h => ok (g n) h) = some (v, h')) : Abs (fun _ => False) h h' := by
  obtain ⟨h1, h2, h3⟩ := nw_some hv
  cases h3
  exact Abs.push _ k h1 h2 _
theorem abs_wr (k : WF h) {b off : Nat} {xs : List SV} (hw : wr h b off xs = some h') : Abs (fun n => n = b) h h' ∧ h.lo ≤ b := by
  obtain ⟨hlo, cs, ty, hg, _, rfl⟩ := wr_some hw
  exact ⟨Abs.put k (by rw [hg]; rfl) _, hlo⟩
theorem abs_app (k : WF h) {e : TypeId} {size bytes : Nat} {x y : Od} {v : AV} (hv : opApp st fr h e size bytes x y = some (v, h')) :
    Abs (clsW h (clsOf st fr (.a (.app e size bytes x y)))) h h' ∧ Abs (fun n => h.lo ≤ n) h h' := by
  obtain ⟨u, hu, hv1⟩ := ob_some.1 hv
  obtain ⟨u', hu', hv2⟩ := ob_some.1 hv1
  have stay : ok u h = some (v, h') → Abs (clsW h (clsOf st fr (.a (.app e size bytes x y)))) h h' ∧ Abs (fun n => h.lo ≤ n) h h' := by
    intro hv2
    cases hv2
    exact ⟨Abs.refl _ k, Abs.refl _ k⟩
  have any : sAny u (ok u h) = some (v, h') → Abs (clsW h (clsOf st fr (.a (.app e size bytes x y)))) h h' ∧ Abs (fun n => h.lo ≤ n) h h' := by
    intro hv3
    rcases sSliceC_some hv3 with ⟨_, hv4⟩ | ⟨_, _, _, _, _, _, _, hv4⟩ | ⟨_, _, hv4⟩ | ⟨_, hv4⟩ <;> exact stay hv4
  have core : ∀ (m : Nat) (new : List SV), appTo h e size bytes m u new = some (v, h') → Abs (clsW h (clsOf st fr (.a (.app e size bytes x y)))) h h' ∧ Abs (fun n => h.lo ≤ n) h h' := by
    intro m new hv5
    have fresh : Nat.casesOn (motive := fun _ => R) m (ok u h) (fun _ => small bytes m (nw h new e (fun k h => ok (.s (.slice k 0 m m false size)) h))) = some (v, h') → Abs (clsW h (clsOf st fr (.a (.app e size bytes x y)))) h h' ∧ Abs (fun n => h.lo ≤ n) h h' := by
      intro hv6
      cases m with
      | zero => exact stay hv6
      | succ m =>
        obtain ⟨_, hv7⟩ := oif_some.1 (show oif (Nat.ble (Nat.mul (m + 1) bytes) 140737488355328) (oif (Nat.ble (m + 1) 140737488355328) (nw h new e (fun k h => ok (.s (.slice k 0 (m + 1) (m + 1) false size)) h)) none) none = some (v, h') from hv6)
        obtain ⟨_, hv8⟩ := oif_some.1 hv7
        have a := abs_nw k hv8
        exact ⟨a.any, a.any⟩
    rcases sSliceC_some hv5 with ⟨rfl, hv6⟩ | ⟨b, off, n, mc, ex, sz, rfl, hv6⟩ | ⟨_, _, hv6⟩ | ⟨rfl, hv6⟩
    · exact fresh hv6
    rotate_left
    · cases hv6
    · exact fresh hv6
    · have hcls : clsOf st fr (.a (.app e size bytes x y)) = .app b := by
        show clOb (ob (ev st fr x) (fun v => sSlice v none (fun b _ _ _ _ _ => some b))) .app = _
        rw [hu]; rfl
      rw [hcls]
      obtain ⟨_, hv9⟩ := oif_some.1 hv6
      rw [oif_if] at hv9
      split at hv9
      · obtain ⟨h1, hw, hv10⟩ := ob_some.1 hv9
        cases hv10
        obtain ⟨a, hlo⟩ := abs_wr k hw
        exact ⟨a, a.mono (fun n e => by subst e; exact hlo)⟩
      · obtain ⟨_, hv11⟩ := oif_some.1 (show oif (Nat.ble (Nat.mul (Nat.add n m) bytes) 140737488355328) (oif (Nat.ble (Nat.add n m) 140737488355328) (appMove h e size b off n m ex new) none) none = some (v, h') from hv9)
        obtain ⟨_, hv12⟩ := oif_some.1 hv11
        obtain ⟨ab, hab, hv13⟩ := ob_some.1 hv12
        cases ab with
        | map va es => cases hv13
        | arr cs ty =>
        obtain ⟨old, hold, hv14⟩ := ob_some.1 (show ob (ltake (Nat.mul n size) (ldrop off cs)) (fun old => Bool.rec (motive := fun _ => R)
              (oif (Nat.ble h.lo b) (oif (Nat.beq ty e) (nw (h.put b none) (lapp old new) e (fun k h => ok (.s (.slice k 0 (Nat.add n m) (Nat.add n m) false size)) h)) none) none)
              (nw h (lapp old new) e (fun k h => ok (.s (.slice k 0 (Nat.add n m) (Nat.add n m) false size)) h)) ex) = some (v, h') from hv13)
        cases ex with
        | true =>
          have a := abs_nw k (show nw h (lapp old new) e (fun k h => ok (.s (.slice k 0 (Nat.add n m) (Nat.add n m) false size)) h) = some (v, h') from hv14)
          exact ⟨a.any, a.any⟩
        | false =>
          obtain ⟨hlo, hv15⟩ := oif_some.1 (show oif (Nat.ble h.lo b) (oif (Nat.beq ty e) (nw (h.put b none) (lapp old new) e (fun k h => ok (.s (.slice k 0 (Nat.add n m) (Nat.add n m) false size)) h)) none) none = some (v, h') from hv14)
          obtain ⟨_, hv16⟩ := oif_some.1 hv15
          have hlo' : h.lo ≤ b := Nat.le_of_ble_eq_true hlo
          have a1 := Abs.put k (show (h.get b).isSome = true by rw [hab]; rfl) none
          have a2 := (abs_nw a1.wf hv16).any (W := fun n => n = b)
          have a := a1.trans a2
          exact ⟨a, a.mono (fun n e => by subst e; exact hlo')⟩
  rcases sSliceC_some hv2 with ⟨_, hv3⟩ | ⟨b', off', m, mc', ex', sz', rfl, hv3⟩ | ⟨rows, _, hv3⟩ | ⟨_, hv3⟩
  · exact any hv3
  · obtain ⟨new, hnew, hv5⟩ := ob_some.1 hv3
    exact core m new hv5
  · obtain ⟨new, hnew, hv5⟩ := ob_some.1 hv3
    exact core (llen rows) new hv5
  · exact any hv3
theorem iop_abs (k : WF h) {cl : FuncId → List AV → Hp → R} (hcl : ClAbs cl) {op : IOp} {v : AV} (hv : iop cl st fr h op = some (v, h')) :
    Abs (clsW h (clsOf st fr op)) h h' ∧ Abs (fun n => h.lo ≤ n) h h' := by
  have both : Abs (fun _ => False) h h' → Abs (clsW h (clsOf st fr op)) h h' ∧ Abs (fun n => h.lo ≤ n) h h' := fun a => ⟨a.any, a.any⟩
  cases op with
  | p po =>
    obtain ⟨v', hv', h2⟩ := ob_some.1 (show ob (pop st fr po) (fun v => ok v h) = some (v, h') from hv)
    cases h2
    exact both (Abs.refl _ k)
  | a ao =>
    cases ao with
    | new e z => exact both (abs_nw k (show nw h z e (fun n h => ok (.s (.ptr n 0)) h) = some (v, h') from hv))
    | box e x =>
      obtain ⟨u, hu, hv1⟩ := ob_some.1 (show ob (ev st fr x) (fun v => cel v (fun cs => nw h cs e (fun n h => ok (.s (.ptr n 0)) h))) = some (v, h') from hv)
      cases u with
      | s x => exact both (abs_nw k (show nw h [x] e (fun n h => ok (.s (.ptr n 0)) h) = some (v, h') from hv1))
      | agg l => exact both (abs_nw k (show nw h l e (fun n h => ok (.s (.ptr n 0)) h) = some (v, h') from hv1))
      | _ => cases hv1
    | bslice e size z len ps =>
      obtain ⟨u, hu, hv1⟩ := ob_some.1 (show ob (fill st fr ps z) (fun cs => nw h cs e (fun n h => ok (.s (.slice n 0 len len true size)) h)) = some (v, h') from hv)
      exact both (abs_nw k hv1)
    | mkslice e size bytes z l c =>
      obtain ⟨u, hu, hv1⟩ := ob_some.1 (show opMkslice st fr h e size bytes z l c = some (v, h') from hv)
      obtain ⟨u', hu', hv2⟩ := ob_some.1 hv1
      obtain ⟨m, _, hv3⟩ := inat_some hv2
      obtain ⟨n, _, hv4⟩ := inat_some hv3
      obtain ⟨_, hv5⟩ := oif_some.1 hv4
      obtain ⟨_, hv6⟩ := oif_some.1 hv5
      obtain ⟨_, hv7⟩ := oif_some.1 hv6
      exact both (abs_nw k hv7)
    | load n agg x =>
      obtain ⟨u, hu, hv1⟩ := ob_some.1 (show opLoad st fr h n agg x = some (v, h') from hv)
      rcases sPtrC_some hv1 with ⟨b, off, _, hv2⟩ | ⟨cs0, _, hv2⟩
      · obtain ⟨cs, hcs, hv3⟩ := ob_some.1 hv2
        obtain ⟨v', hv', hv4⟩ := ob_some.1 hv3
        cases hv4
        exact both (Abs.refl _ k)
      · obtain ⟨cs, hcs, hv3⟩ := ob_some.1 hv2
        obtain ⟨v', hv', hv4⟩ := ob_some.1 hv3
        cases hv4
        exact both (Abs.refl _ k)
    | store n x y =>
      obtain ⟨p, hp, hv1⟩ := ob_some.1 (show opStore st fr h n x y = some (v, h') from hv)
      obtain ⟨u, hu, hv2⟩ := ob_some.1 hv1
      obtain ⟨b, off, hpb, hv3⟩ := sPtr_some hv2
      have : ∃ cs, oif (Nat.beq (llen cs) n) (ob (wr h b off cs) (fun h => ok .undef h)) none = some (v, h') := by
        cases u with
        | s x => exact ⟨_, hv3⟩
        | agg l => exact ⟨_, hv3⟩
        | _ => cases hv3
      obtain ⟨cs, hv4⟩ := this
      obtain ⟨_, hv5⟩ := oif_some.1 hv4
      obtain ⟨h1, hw, hv6⟩ := ob_some.1 hv5
      cases hv6
      obtain ⟨a, hlo⟩ := abs_wr k hw
      have a' := a.mono (V := fun n => h.lo ≤ n) (fun n e => by subst e; exact hlo)
      subst hpb
      have hcls : clsOf st fr (.a (.store n x y)) = .app b := by
        show clOb (ob (ev st fr x) (fun v => sPtr v (fun b _ => some b))) .app = _
        rw [hp]; rfl
      rw [hcls]
      exact ⟨a, a'⟩
    | call f as =>
      obtain ⟨vs, hvs, hv1⟩ := ob_some.1 (show ob (evs st fr as) (fun vs => cl f vs h) = some (v, h') from hv)
      have a := hcl _ _ _ _ _ k hv1
      exact ⟨a, a⟩
    | callv x as =>
      obtain ⟨u, hu, hv1⟩ := ob_some.1 (show ob (ev st fr x) (fun v => sFunc v (fun f caps => ob (evs st fr as) (fun vs => cl f (lapp vs (capAVs caps)) h))) = some (v, h') from hv)
      obtain ⟨f, caps, _, hv2⟩ := sFunc_some hv1
      obtain ⟨vs, hvs, hv3⟩ := ob_some.1 hv2
      have a := hcl _ _ _ _ _ k hv3
      exact ⟨a, a⟩
    | app e size bytes x y => exact abs_app k hv
    | copy size x y =>
      obtain ⟨u, hu, hv1⟩ := ob_some.1 (show opCopy st fr h size x y = some (v, h') from hv)
      obtain ⟨u', hu', hv2⟩ := ob_some.1 hv1
      have stay : ok (.s (.int .i64 0)) h = some (v, h') → Abs (fun n => h.lo ≤ n) h h' := by
        intro hv
        cases hv
        exact Abs.refl _ k
      have any : ∀ w, sAny w (ok (.s (.int .i64 0)) h) = some (v, h') → Abs (fun n => h.lo ≤ n) h h' := by
        intro w hv3
        rcases sSliceC_some hv3 with ⟨_, hv4⟩ | ⟨_, _, _, _, _, _, _, hv4⟩ | ⟨_, _, hv4⟩ | ⟨_, hv4⟩ <;> exact stay hv4
      rcases sSliceC_some hv2 with ⟨_, hv3⟩ | ⟨b, off, n, mc, ex, sz, _, hv3⟩ | ⟨_, _, hv3⟩ | ⟨_, hv3⟩
      · exact ⟨any _ hv3, any _ hv3⟩
      rotate_left
      · cases hv3
      · exact ⟨any _ hv3, any _ hv3⟩
      · rcases sSliceC_some hv3 with ⟨_, hv4⟩ | ⟨b', off', m, mc', ex', sz', _, hv4⟩ | ⟨rows, _, hv4⟩ | ⟨_, hv4⟩
        · exact ⟨stay hv4, stay hv4⟩
        · obtain ⟨cs, hcs, hv5⟩ := ob_some.1 hv4
          obtain ⟨h1, hw, hv6⟩ := ob_some.1 hv5
          cases hv6
          obtain ⟨a, hlo⟩ := abs_wr k hw
          have a' := a.mono (V := fun n => h.lo ≤ n) (fun n e => by subst e; exact hlo)
          exact ⟨a', a'⟩
        · obtain ⟨al, hal, hv5⟩ := ob_some.1 hv4
          obtain ⟨cs, hcs, hv5⟩ := ob_some.1 hv5
          obtain ⟨h1, hw, hv6⟩ := ob_some.1 hv5
          cases hv6
          obtain ⟨a, hlo⟩ := abs_wr k hw
          have a' := a.mono (V := fun n => h.lo ≤ n) (fun n e => by subst e; exact hlo)
          exact ⟨a', a'⟩
        · exact ⟨stay hv4, stay hv4⟩
    | clear z x =>
      obtain ⟨u, hu, hv1⟩ := ob_some.1 (show opClear st fr h z x = some (v, h') from hv)
      have stay : ok (.tup []) h = some (v, h') → Abs (fun n => h.lo ≤ n) h h' := by
        intro hv
        cases hv
        exact Abs.refl _ k
      rcases sSlice_some hv1 with ⟨_, hv2⟩ | ⟨b, off, n, mc, ex, sz, _, hv2⟩
      · exact ⟨stay hv2, stay hv2⟩
      · cases n with
        | zero => exact ⟨stay hv2, stay hv2⟩
        | succ n =>
          obtain ⟨h1, hw, hv3⟩ := ob_some.1 (show ob (wr h b off (rep z (n + 1))) (fun h => ok (.tup []) h) = some (v, h') from hv2)
          cases hv3
          obtain ⟨a, hlo⟩ := abs_wr k hw
          have a' := a.mono (V := fun n => h.lo ≤ n) (fun n e => by subst e; exact hlo)
          exact ⟨a', a'⟩
    | mkmap va =>
      obtain ⟨h1, h2, h3⟩ := nwx_some (show nwx h (.map va []) (fun n h => ok (.s (.map n)) h) = some (v, h') from hv)
      cases h3
      have a := Abs.push (fun _ => False) k h1 h2 (.map va [])
      exact both a
    | look sig va z okf x y =>
      obtain rfl := look_heap (show opLook st fr h sig va z okf x y = some (v, h') from hv)
      exact both (Abs.refl _ k)
    | mupd sig va x y u =>
      obtain ⟨b, es, es', hlo, hg, rfl, _⟩ := mupd_heap (show opMupd st fr h sig va x y u = some (v, h') from hv)
      have a := Abs.put k (show (h.get b).isSome = true by rw [hg]; rfl) (some (.map va es'))
      have a' := a.mono (V := fun n => h.lo ≤ n) (fun n e => by subst e; exact hlo)
      exact ⟨a', a'⟩
    | slicea n size x =>
      obtain ⟨u, hu, hv1⟩ := ob_some.1 (show opSlicea st fr h n size x = some (v, h') from hv)
      rcases sPtrC_some hv1 with ⟨b, off, _, hv2⟩ | ⟨cells, _, hv2⟩
      · obtain ⟨xs, hxs, hv3⟩ := ob_some.1 hv2
        cases hv3
        exact both (Abs.refl _ k)
      · obtain ⟨xs, hxs, hv3⟩ := ob_some.1 hv2
        cases hv3
        exact both (Abs.refl _ k)
    | boxc e x =>
      obtain ⟨u, hu, hv1⟩ := ob_some.1 (show opBoxc st fr h e x = some (v, h') from hv)
      have : h' = h := by
        cases u with
        | s y => obtain ⟨_, hv2⟩ := oif_some.1 (show oif (Nat.beq (llen [y]) e) (oif (grds [y]) (ok (.s (.cp [y])) h) none) none = some (v, h') from hv1); obtain ⟨_, hv3⟩ := oif_some.1 hv2; cases hv3; rfl
        | agg l => obtain ⟨_, hv2⟩ := oif_some.1 (show oif (Nat.beq (llen l) e) (oif (grds l) (ok (.s (.cp l)) h) none) none = some (v, h') from hv1); obtain ⟨_, hv3⟩ := oif_some.1 hv2; cases hv3; rfl
        | _ => cases hv1
      subst this
      exact both (Abs.refl _ k)
    | peq neg x y =>
      obtain ⟨rfl, _⟩ := opPeq_some (show opPeq st fr h neg x y = some (v, h') from hv)
      exact both (Abs.refl _ k)
    | strop n x y =>
      obtain rfl := opStrop_heap (show opStrop st fr h n x y = some (v, h') from hv)
      exact both (Abs.refl _ k)
    | bad => cases hv
theorem opDo_abs (k : WF h) {cl : FuncId → List AV → Hp → R} (hcl : ClAbs cl) {op : IOp} {g : Option (Nat × Bool)} {v : AV} (hv : opDo cl st fr h op g = some (v, h')) : Abs (fun n => h.lo ≤ n) h h' := by
  obtain ⟨b, hb, hv1⟩ := ob_some.1 hv
  cases b with
  | false => cases hv1; exact Abs.refl _ k
  | true => exact (iop_abs k hcl hv1).2
theorem iops_abs {cl : FuncId → List AV → Hp → R} (hcl : ClAbs cl) : ∀ (l : List IOper) (st fr : List AV) (h : Hp) (s : St), WF h → iops cl l st fr h = some s → ∃ fr' h', s = .mk fr' h' ∧ Abs (fun n => h.lo ≤ n) h h'
  | [], st, fr, h, s, k, hv => by cases hv; exact ⟨fr, h, rfl, Abs.refl _ k⟩
  | .mk dst op g :: l, st, fr, h, s, k, hv => by
    obtain ⟨p, hp, hv1⟩ := ob_some.1 (show ob (opDo cl st fr h op g) (fun p => iops cl l (p.1 :: st) (putD fr dst p.1) p.2) = some s from hv)
    have a := opDo_abs k hcl (v := p.1) (h' := p.2) hp
    obtain ⟨fr', h', e, a'⟩ := iops_abs hcl l _ _ _ s a.wf hv1
    have a'' : Abs (fun n => h.lo ≤ n) p.2 h' := by rw [← a.lo]; exact a'
    exact ⟨fr', h', e, a.trans a''⟩
/-- the heap of an operation of a region that draws, and what comes of it -/
theorem drIn_some {cl : FuncId → List AV → Hp → R} {n : Nat} {t : Tr AB} {lo lo' : Nat} {hid hid' : List (Nat × Nat)} {op : IOp} {e : Nat → Ent} {d : DR} (hv : drIn cl st fr n t lo lo' hid hid' op e = some d) :
    ∃ v h1, iop cl st fr (.mk n t lo' hid') op = some (v, h1) ∧ d = .mk v (.mk h1.next h1.tr lo hid) (e h1.next) := by
  obtain ⟨p, hp, hv1⟩ := ob_some.1 hv
  obtain ⟨v, h1⟩ := p
  cases h1 with
  | mk n' t' a b =>
    cases hv1
    exact ⟨v, _, hp, rfl⟩
end
end Go.Proofs.YtmaaalpegnhjcaaDoor.Ev

/- A region that draws its order: the interpreter's own walk through it, operation by operation. No program in sight. -/
import Derived.Test.YtmaaalpegnhjcaaDoorDrS
namespace Go.Proofs.YtmaaalpegnhjcaaDoor.Ev
open Go
set_option linter.unusedVariables false
set_option linter.unusedSimpArgs false
theorem revOf_congr {α : Type} {f g : Nat → α} : ∀ i, (∀ j, j < i → f j = g j) → revOf f i = revOf g i
  | 0, _ => rfl
  | i + 1, h => by simp only [revOf]; rw [h i (by omega), revOf_congr i (fun j hj => h j (by omega))]
theorem dops_trace {cl : FuncId → List AV → Hp → R} : ∀ (l : List (IOper × Option (List Nat))) (n : Nat) (V0 : Nat → AV) (H0 : Nat → Hp) (E0 : Nat → Ent) (F0 : Nat → List AV) (s : St), dops cl l (revOf V0 n) (revOf E0 n) (F0 n) (H0 n) = some s →
    ∃ (V : Nat → AV) (H : Nat → Hp) (E : Nat → Ent) (F : Nat → List AV), (∀ j, j < n → V j = V0 j ∧ E j = E0 j) ∧ (∀ j, j ≤ n → H j = H0 j ∧ F j = F0 j) ∧
      (∀ (k : Nat) (dst : Option Nat) (op : IOp) (g : Option (Nat × Bool)) (m : Option (List Nat)), l[k]? = some (.mk dst op g, m) → drDo cl (revOf V (n + k)) (F (n + k)) (revOf E (n + k)) (H (n + k)) op g m = some (.mk (V (n + k)) (H (n + k + 1)) (E (n + k))) ∧ F (n + k + 1) = putD (F (n + k)) dst (V (n + k))) ∧
      s = .mk (F (n + l.length)) (H (n + l.length))
  | [], n, V0, H0, E0, F0, s, h => ⟨V0, H0, E0, F0, fun _ _ => ⟨rfl, rfl⟩, fun _ _ => ⟨rfl, rfl⟩, fun k dst op g m hk => by simp at hk, (Option.some.inj (show some (St.mk (F0 n) (H0 n)) = some s from h)).symm⟩
  | (.mk dst op g, m) :: l, n, V0, H0, E0, F0, s, h => by
    obtain ⟨d, hd, h1⟩ := ob_some.1 (show ob (drDo cl (revOf V0 n) (F0 n) (revOf E0 n) (H0 n) op g m) (fun p => DR.casesOn (motive := fun _ => Option St) p (fun v h' e => dops cl l (v :: revOf V0 n) (e :: revOf E0 n) (putD (F0 n) dst v) h')) = some s from h)
    cases d with
    | mk v h' e =>
    have e1 : revOf (fun j => if j = n then v else V0 j) (n + 1) = v :: revOf V0 n := by
      simp only [revOf, if_true]
      rw [revOf_congr n (fun j hj => by rw [if_neg (by omega)])]
    have e2 : revOf (fun j => if j = n then e else E0 j) (n + 1) = e :: revOf E0 n := by
      simp only [revOf, if_true]
      rw [revOf_congr n (fun j hj => by rw [if_neg (by omega)])]
    obtain ⟨V, H, E, F, p1, p2, p3, p4⟩ := dops_trace l (n + 1) (fun j => if j = n then v else V0 j) (fun j => if j = n + 1 then h' else H0 j) (fun j => if j = n then e else E0 j) (fun j => if j = n + 1 then putD (F0 n) dst v else F0 j) s (by
      rw [e1, e2]
      simp only [if_true]
      exact h1)
    refine ⟨V, H, E, F, fun j hj => ?_, fun j hj => ?_, fun k dst' op' g' m' hk => ?_, ?_⟩
    · obtain ⟨q1, q2⟩ := p1 j (by omega)
      rw [q1, q2, if_neg (by omega), if_neg (by omega)]
      exact ⟨rfl, rfl⟩
    · obtain ⟨q1, q2⟩ := p2 j (by omega)
      rw [q1, q2, if_neg (by omega), if_neg (by omega)]
      exact ⟨rfl, rfl⟩
    · cases k with
      | zero =>
        simp only [List.getElem?_cons_zero, Option.some.injEq, Prod.mk.injEq, IOper.mk.injEq] at hk
        obtain ⟨⟨rfl, rfl, rfl⟩, rfl⟩ := hk
        have r1 := (p1 n (by omega)).1
        have r2 := (p1 n (by omega)).2
        have r3 := (p2 (n + 1) (by omega)).1
        have r4 := (p2 (n + 1) (by omega)).2
        have r5 := (p2 n (by omega)).1
        have r6 := (p2 n (by omega)).2
        simp only [if_true] at r1 r2 r3 r4
        rw [if_neg (by omega)] at r5 r6
        have r7 : revOf V n = revOf V0 n := revOf_congr n (fun j hj => by rw [(p1 j (by omega)).1, if_neg (by omega)])
        have r8 : revOf E n = revOf E0 n := revOf_congr n (fun j hj => by rw [(p1 j (by omega)).2, if_neg (by omega)])
        simp only [Nat.add_zero]
        rw [r1, r2, r3, r4, r5, r6, r7, r8]
        exact ⟨hd, rfl⟩
      | succ k =>
        have := p3 k dst' op' g' m' (by simpa using hk)
        rw [show n + 1 + k = n + (k + 1) by omega] at this
        exact this
    · rw [p4]
      simp only [List.length_cons]
      rw [show n + 1 + l.length = n + (l.length + 1) by omega]
def ivOf : Ent → List (Nat × Nat)
  | .mk iv _ => iv
def fpOf : Ent → Option (List Nat)
  | .mk _ fp => fp
theorem inHid_app (l r : List (Nat × Nat)) (n : Nat) : inHid (lapp l r) n = (inHid l n || inHid r n) := by
  induction l with
  | nil => rw [lapp_eq]; simp [inHid]
  | cons p l ih =>
    have h1 : ∀ q : List (Nat × Nat), inHid (p :: q) n = oif (Nat.ble p.1 n) (oif (Nat.ble (Nat.succ n) p.2) true (inHid q n)) (inHid q n) := fun _ => rfl
    have h2 : lapp (p :: l) r = p :: lapp l r := rfl
    rw [h2, h1, h1, ih]
    simp only [oif_if]
    cases Nat.ble p.1 n <;> cases Nat.ble (Nat.succ n) p.2 <;> simp
theorem inHid_cons (p : Nat × Nat) (q : List (Nat × Nat)) (n : Nat) : inHid (p :: q) n = true ↔ (p.1 ≤ n ∧ n < p.2) ∨ inHid q n = true := by
  have h1 : inHid (p :: q) n = oif (Nat.ble p.1 n) (oif (Nat.ble (Nat.succ n) p.2) true (inHid q n)) (inHid q n) := rfl
  rw [h1]
  simp only [oif_if, nble]
  by_cases h2 : p.1 ≤ n <;> by_cases h3 : Nat.succ n ≤ p.2 <;> simp [h2, h3] <;> omega
theorem inHid_nil (n : Nat) : inHid [] n = false := rfl
theorem sel_spec {es : List Ent} {hid : List (Nat × Nat)} : ∀ {js : List Nat} {r : List (Nat × Nat)}, sel es js hid = some r →
    ∀ n, inHid r n = true ↔ inHid hid n = true ∨ ∃ j ∈ js, ∃ e, es[j]? = some e ∧ inHid (ivOf e) n = true
  | [], r, h, n => by cases h; simp
  | j :: js, r, h, n => by
    obtain ⟨e, he, h1⟩ := ob_some.1 (show ob (lget es j) (fun e => ob (sel es js hid) (fun l => Ent.casesOn (motive := fun _ => Option (List (Nat × Nat))) e (fun iv _ => some (lapp iv l)))) = some r from h)
    obtain ⟨l, hl, h2⟩ := ob_some.1 h1
    rw [lget_eq] at he
    cases e with
    | mk iv fp =>
      cases h2
      rw [inHid_app, Bool.or_eq_true, sel_spec hl n]
      constructor
      · rintro (h3 | h3 | ⟨j', h3, e', h4, h5⟩)
        · exact .inr ⟨j, by simp, _, he, h3⟩
        · exact .inl h3
        · exact .inr ⟨j', by simp [h3], e', h4, h5⟩
      · rintro (h3 | ⟨j', h3, e', h4, h5⟩)
        · exact .inr (.inl h3)
        · rcases List.mem_cons.1 h3 with rfl | h3
          · rw [he] at h4; cases h4; exact .inl h5
          · exact .inr (.inr ⟨j', h3, e', h4, h5⟩)
theorem notIn_spec {b : Nat} : ∀ {l : List Nat}, notIn b l = true → b ∉ l
  | [], _ => by simp
  | n :: l, h => by
    have h' : oif (Nat.beq n b) false (notIn b l) = true := h
    rw [oif_if] at h'
    split at h'
    · cases h'
    · rename_i h1
      rw [nbeq] at h1
      simp only [List.mem_cons, not_or]
      exact ⟨fun e => h1 e.symm, notIn_spec h'⟩
theorem unread_spec {es : List Ent} {b : Nat} : ∀ {js : List Nat}, unread es js b = true → ∀ j ∈ js, ∃ e ns, es[j]? = some e ∧ fpOf e = some ns ∧ b ∉ ns
  | [], _, j, hj => by simp at hj
  | j :: js, h, j', hj => by
    have h' : (Option.rec (motive := fun _ => Bool) false (fun e => Ent.casesOn (motive := fun _ => Bool) e (fun _ fp => Option.rec (motive := fun _ => Bool) false (fun ns => oif (notIn b ns) (unread es js b) false) fp)) (lget es j)) = true := h
    cases he : lget es j with
    | none => rw [he] at h'; cases h'
    | some e =>
      rw [he] at h'
      cases e with
      | mk iv fp =>
        cases fp with
        | none => cases h'
        | some ns =>
          have h2 : oif (notIn b ns) (unread es js b) false = true := h'
          rw [oif_if] at h2
          split at h2
          · rename_i h3
            rw [lget_eq] at he
            rcases List.mem_cons.1 hj with rfl | hj
            · exact ⟨_, ns, he, rfl, notIn_spec h3⟩
            · exact unread_spec h2 j' hj
          · cases h2
/-! ### how an operation touches memory -/
section
variable {st fr : List AV} {h h' : Hp} {cl : FuncId → List AV → Hp → R}
theorem cls_load {op : IOp} {x : Nat} (hc : clsOf st fr op = .load x) : ∃ n agg y off, op = .a (.load n agg y) ∧ ev st fr y = some (.s (.ptr x off)) := by
  cases op with
  | p po => cases hc
  | a ao =>
    cases ao with
    | load n agg y =>
      have hc' : clOb (ob (ev st fr y) (fun v => sPtrC v (fun b _ => some (Cls.load b)) (fun _ => some .quiet))) (fun c => c) = .load x := hc
      cases he : ob (ev st fr y) (fun v => sPtrC v (fun b _ => some (Cls.load b)) (fun _ => some .quiet)) with
      | none => rw [he] at hc'; cases hc'
      | some b =>
        rw [he] at hc'
        obtain ⟨v, hv, h2⟩ := ob_some.1 he
        rcases sPtrC_some h2 with ⟨b, off, rfl, h3⟩ | ⟨cs, rfl, h3⟩
        · cases h3
          cases hc'
          exact ⟨n, agg, y, off, rfl, hv⟩
        · cases h3
          cases hc'
    | app e size bytes y z =>
      have hc' : clOb (ob (ev st fr y) (fun v => sSlice v none (fun b _ _ _ _ _ => some b))) .app = .load x := hc
      cases he : ob (ev st fr y) (fun v => sSlice v none (fun b _ _ _ _ _ => some b)) <;> rw [he] at hc' <;> cases hc'
    | store n y z =>
      have hc' : clOb (ob (ev st fr y) (fun v => sPtr v (fun b _ => some b))) .app = .load x := hc
      cases he : ob (ev st fr y) (fun v => sPtr v (fun b _ => some b)) <;> rw [he] at hc' <;> cases hc'
    | _ => cases hc
theorem iop_load {n : Nat} {agg : Bool} {y : Od} {b off : Nat} (hy : ev st fr y = some (.s (.ptr b off))) {v : AV} (hv : iop cl st fr h (.a (.load n agg y)) = some (v, h')) :
    h' = h ∧ (h.get b).isSome = true ∧ ∀ h2 : Hp, h2.get b = h.get b → iop cl st fr h2 (.a (.load n agg y)) = some (v, h2) := by
  obtain ⟨u, hu, h1⟩ := ob_some.1 (show opLoad st fr h n agg y = some (v, h') from hv)
  rw [hy] at hu
  cases hu
  obtain ⟨cs, hcs, h3⟩ := ob_some.1 (show ob (rd h b off n) (fun cs => ob (mkAV agg cs) (fun v => ok v h)) = some (v, h') from h1)
  obtain ⟨v', hv', h4⟩ := ob_some.1 h3
  cases h4
  obtain ⟨cs0, ty, hg, _, _⟩ := rd_some hcs
  refine ⟨rfl, by rw [hg]; rfl, fun h2 e => ?_⟩
  have : rd h2 b off n = some cs := by
    have h5 : rd h2 b off n = ob (h2.get b) (fun x => AB.casesOn (motive := fun _ => Option (List SV)) x (fun cs _ => ltake n (ldrop off cs)) (fun _ _ => none)) := rfl
    have h6 : rd h b off n = ob (h.get b) (fun x => AB.casesOn (motive := fun _ => Option (List SV)) x (fun cs _ => ltake n (ldrop off cs)) (fun _ _ => none)) := rfl
    rw [h5, e, ← h6, hcs]
  show opLoad st fr h2 n agg y = _
  unfold opLoad
  rw [hy]
  show ob (rd h2 b off n) (fun cs => ob (mkAV agg cs) (fun v => ok v h2)) = _
  rw [this]
  show ob (mkAV agg cs) (fun v => ok v h2) = _
  rw [hv']
  rfl
theorem iop_fresh {ao : AO} (hc : clsOf st fr (.a ao) = .fresh) {v : AV} (hv : iop cl st fr h (.a ao) = some (v, h')) :
    ∃ (cs : List SV) (ty : TypeId) (g : Nat → AV), ∀ h2, iop cl st fr h2 (.a ao) = nw h2 cs ty (fun n h => ok (g n) h) := by
  cases ao with
  | new e z => exact ⟨z, e, fun n => .s (.ptr n 0), fun _ => rfl⟩
  | box e x =>
    obtain ⟨u, hu, hv1⟩ := ob_some.1 (show ob (ev st fr x) (fun v => cel v (fun cs => nw h cs e (fun n h => ok (.s (.ptr n 0)) h))) = some (v, h') from hv)
    have key : ∀ h2, iop cl st fr h2 (.a (.box e x)) = cel u (fun cs => nw h2 cs e (fun n h => ok (.s (.ptr n 0)) h)) := by
      intro h2
      show ob (ev st fr x) (fun v => cel v (fun cs => nw h2 cs e (fun n h => ok (.s (.ptr n 0)) h))) = _
      rw [hu]; rfl
    cases u with
    | s x => exact ⟨[x], e, fun n => .s (.ptr n 0), key⟩
    | agg l => exact ⟨l, e, fun n => .s (.ptr n 0), key⟩
    | _ => cases hv1
  | bslice e size z len ps =>
    obtain ⟨u, hu, hv1⟩ := ob_some.1 (show ob (fill st fr ps z) (fun cs => nw h cs e (fun n h => ok (.s (.slice n 0 len len true size)) h)) = some (v, h') from hv)
    refine ⟨u, e, fun n => .s (.slice n 0 len len true size), fun h2 => ?_⟩
    show ob (fill st fr ps z) (fun cs => nw h2 cs e (fun n h => ok (.s (.slice n 0 len len true size)) h)) = _
    rw [hu]; rfl
  | mkslice e size bytes z l c =>
    obtain ⟨u, hu, hv1⟩ := ob_some.1 (show opMkslice st fr h e size bytes z l c = some (v, h') from hv)
    obtain ⟨u', hu', hv2⟩ := ob_some.1 hv1
    obtain ⟨m, rfl, hv3⟩ := inat_some hv2
    obtain ⟨n, rfl, hv4⟩ := inat_some hv3
    obtain ⟨h1, hv5⟩ := oif_some.1 hv4
    obtain ⟨h2, hv6⟩ := oif_some.1 hv5
    obtain ⟨h3, hv7⟩ := oif_some.1 hv6
    refine ⟨rep z n, e, fun b => .s (.slice b 0 m n true size), fun h2' => ?_⟩
    show opMkslice st fr h2' e size bytes z l c = _
    unfold opMkslice
    rw [hu]
    show ob (ev st fr c) _ = _
    rw [hu']
    show oif (Nat.ble m n) (oif (Nat.ble (Nat.mul bytes n) 1000000000) (oif (Nat.ble n 1000000000) _ none) none) none = _
    rw [h1, h2, h3]
    rfl
  | load n agg y =>
    have hc' : clOb (ob (ev st fr y) (fun v => sPtrC v (fun b _ => some (Cls.load b)) (fun _ => some .quiet))) (fun c => c) = .fresh := hc
    cases he : ob (ev st fr y) (fun v => sPtrC v (fun b _ => some (Cls.load b)) (fun _ => some .quiet)) with
    | none => rw [he] at hc'; cases hc'
    | some c =>
      rw [he] at hc'
      obtain ⟨v, hv, h2⟩ := ob_some.1 he
      rcases sPtrC_some h2 with ⟨b, off, rfl, h3⟩ | ⟨cs, rfl, h3⟩ <;> cases h3 <;> cases hc'
  | app e size bytes y z =>
    have hc' : clOb (ob (ev st fr y) (fun v => sSlice v none (fun b _ _ _ _ _ => some b))) .app = .fresh := hc
    cases he : ob (ev st fr y) (fun v => sSlice v none (fun b _ _ _ _ _ => some b)) <;> rw [he] at hc' <;> cases hc'
  | store n y z =>
    have hc' : clOb (ob (ev st fr y) (fun v => sPtr v (fun b _ => some b))) .app = .fresh := hc
    cases he : ob (ev st fr y) (fun v => sPtr v (fun b _ => some b)) <;> rw [he] at hc' <;> cases hc'
  | _ => cases hc
/-- an operation that neither reads the heap nor changes it -/
theorem iop_quiet {op : IOp} (hc : clsOf st fr op = .quiet) {v : AV} (hv : iop cl st fr h op = some (v, h')) : h' = h ∧ ∀ h2, iop cl st fr h2 op = some (v, h2) := by
  cases op with
  | p po => cases hc
  | a ao =>
    cases ao with
    | load n agg y =>
      have hc' : clOb (ob (ev st fr y) (fun v => sPtrC v (fun b _ => some (Cls.load b)) (fun _ => some .quiet))) (fun c => c) = .quiet := hc
      cases he : ob (ev st fr y) (fun v => sPtrC v (fun b _ => some (Cls.load b)) (fun _ => some .quiet)) with
      | none => rw [he] at hc'; cases hc'
      | some c =>
        rw [he] at hc'
        obtain ⟨u, hu, h2⟩ := ob_some.1 he
        rcases sPtrC_some h2 with ⟨b, off, rfl, h3⟩ | ⟨cs, rfl, h3⟩
        · cases h3; cases hc'
        · obtain ⟨u', hu', h4⟩ := ob_some.1 (show opLoad st fr h n agg y = some (v, h') from hv)
          rw [hu] at hu'
          cases hu'
          obtain ⟨cs', h5, h6⟩ := ob_some.1 (show ob (ltake n cs) (fun cs => ob (mkAV agg cs) (fun v => ok v h)) = some (v, h') from h4)
          obtain ⟨v', h7, h8⟩ := ob_some.1 h6
          cases h8
          refine ⟨rfl, fun h2 => ?_⟩
          show opLoad st fr h2 n agg y = _
          unfold opLoad
          rw [hu]
          show ob (ltake n cs) (fun cs => ob (mkAV agg cs) (fun v => ok v h2)) = _
          rw [h5]
          show ob (mkAV agg cs') (fun v => ok v h2) = _
          rw [h7]
          rfl
    | boxc e x =>
      obtain ⟨u, hu, hv1⟩ := ob_some.1 (show opBoxc st fr h e x = some (v, h') from hv)
      have key : ∀ h2, iop cl st fr h2 (.a (.boxc e x)) = cel u (fun cs => oif (Nat.beq (llen cs) e) (oif (grds cs) (ok (.s (.cp cs)) h2) none) none) := fun h2 => by
        show opBoxc st fr h2 e x = _
        unfold opBoxc
        rw [hu]; rfl
      cases u with
      | s y =>
        obtain ⟨h0, hv2⟩ := oif_some.1 (show oif (Nat.beq (llen [y]) e) (oif (grds [y]) (ok (.s (.cp [y])) h) none) none = some (v, h') from hv1)
        obtain ⟨h1, hv3⟩ := oif_some.1 hv2
        cases hv3
        exact ⟨rfl, fun h2 => (key h2).trans (oif_some.2 ⟨h0, oif_some.2 ⟨h1, rfl⟩⟩)⟩
      | agg l =>
        obtain ⟨h0, hv2⟩ := oif_some.1 (show oif (Nat.beq (llen l) e) (oif (grds l) (ok (.s (.cp l)) h) none) none = some (v, h') from hv1)
        obtain ⟨h1, hv3⟩ := oif_some.1 hv2
        cases hv3
        exact ⟨rfl, fun h2 => (key h2).trans (oif_some.2 ⟨h0, oif_some.2 ⟨h1, rfl⟩⟩)⟩
      | _ => cases hv1
    | app e size bytes y z =>
      have hc' : clOb (ob (ev st fr y) (fun v => sSlice v none (fun b _ _ _ _ _ => some b))) .app = .quiet := hc
      cases he : ob (ev st fr y) (fun v => sSlice v none (fun b _ _ _ _ _ => some b)) <;> rw [he] at hc' <;> cases hc'
    | store n y z =>
      have hc' : clOb (ob (ev st fr y) (fun v => sPtr v (fun b _ => some b))) .app = .quiet := hc
      cases he : ob (ev st fr y) (fun v => sPtr v (fun b _ => some b)) <;> rw [he] at hc' <;> cases hc'
    | _ => cases hc
/-- an operation at the head of a region: what it ran on, and what it has touched -/
inductive HeadR (cl : FuncId → List AV → Hp → R) (st fr : List AV) (es : List Ent) (h : Hp) (op : IOp) (js : List Nat) (hid' : List (Nat × Nat)) (v : AV) : Hp → Ent → Prop where
  | fresh (h1 : Hp) : clsOf st fr op = .fresh → iop cl st fr (.mk h.next h.tr h.next hid') op = some (v, h1) → HeadR cl st fr es h op js hid' v h1 (.mk [(h.next, h1.next)] (some []))
  | load (x : Nat) (h1 : Hp) : clsOf st fr op = .load x → iop cl st fr (.mk h.next h.tr h.next hid') op = some (v, h1) → HeadR cl st fr es h op js hid' v h1 (.mk [] (some [x]))
  | app (b : Nat) (h1 : Hp) : clsOf st fr op = .app b → unread es js b = true → h.lo ≤ b → ((Hp.mk h.next h.tr h.lo hid').get b).isSome = true → iop cl st fr (.mk h.next h.tr h.lo hid') op = some (v, h1) → HeadR cl st fr es h op js hid' v h1 (.mk [(b, b + 1), (h.next, h1.next)] none)
  | quiet (h1 : Hp) : clsOf st fr op = .quiet → iop cl st fr (.mk h.next h.tr h.next hid') op = some (v, h1) → HeadR cl st fr es h op js hid' v h1 (.mk [] (some []))
  | other (h1 : Hp) : clsOf st fr op = .other → iop cl st fr (.mk h.next h.tr h.next hid') op = some (v, h1) → HeadR cl st fr es h op js hid' v h1 (.mk [(h.next, h1.next)] none)
theorem drHead_some {es : List Ent} {op : IOp} {js : List Nat} {d : DR} (hd : drHead cl st fr es h op js = some d) :
    ∃ hid' v h1 e, sel es js h.hid = some hid' ∧ HeadR cl st fr es h op js hid' v h1 e ∧ d = .mk v (.mk h1.next h1.tr h.lo h.hid) e := by
  cases h with
  | mk n t lo hid =>
  obtain ⟨hid', hs, h2⟩ := ob_some.1 (show ob (sel es js hid) (fun hid' =>
    Cls.casesOn (motive := fun _ => Option DR) (clsOf st fr op)
      (drIn cl st fr n t lo n hid hid' op (fun n' => .mk [(n, n')] (some [])))
      (fun x => drIn cl st fr n t lo n hid hid' op (fun _ => .mk [] (some [x])))
      (fun b => oif (unread es js b) (oif (Nat.ble lo b) (ob (Hp.get (.mk n t lo hid') b) (fun _ => drIn cl st fr n t lo lo hid hid' op (fun n' => .mk [(b, Nat.succ b), (n, n')] none))) none) none)
      (drIn cl st fr n t lo n hid hid' op (fun _ => .mk [] (some [])))
      (drIn cl st fr n t lo n hid hid' op (fun n' => .mk [(n, n')] none))) = some d from hd)
  cases hc : clsOf st fr op with
  | fresh =>
    rw [hc] at h2
    obtain ⟨v, h1, h3, rfl⟩ := drIn_some h2
    exact ⟨hid', v, h1, _, hs, .fresh h1 hc h3, rfl⟩
  | load x =>
    rw [hc] at h2
    obtain ⟨v, h1, h3, rfl⟩ := drIn_some h2
    exact ⟨hid', v, h1, _, hs, .load x h1 hc h3, rfl⟩
  | app b =>
    rw [hc] at h2
    obtain ⟨h3, h4⟩ := oif_some.1 h2
    obtain ⟨h5, h6⟩ := oif_some.1 h4
    obtain ⟨x, hx, h7⟩ := ob_some.1 h6
    obtain ⟨v, h1, h8, rfl⟩ := drIn_some h7
    exact ⟨hid', v, h1, _, hs, .app b h1 hc h3 (Nat.le_of_ble_eq_true h5) (by show (Hp.get (.mk n t lo hid') b).isSome = true; rw [hx]; rfl) h8, rfl⟩
  | quiet =>
    rw [hc] at h2
    obtain ⟨v, h1, h3, rfl⟩ := drIn_some h2
    exact ⟨hid', v, h1, _, hs, .quiet h1 hc h3, rfl⟩
  | other =>
    rw [hc] at h2
    obtain ⟨v, h1, h3, rfl⟩ := drIn_some h2
    exact ⟨hid', v, h1, _, hs, .other h1 hc h3, rfl⟩
end
end Go.Proofs.YtmaaalpegnhjcaaDoor.Ev

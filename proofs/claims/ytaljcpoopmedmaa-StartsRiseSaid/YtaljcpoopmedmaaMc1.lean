/- The builders of functions: steps of a way through the builder; what else is kept. -/
import Derived.Test.YtaljcpoopmedmaaMb2
namespace Go.Proofs.Ytaljcpoopmedmaa.Ev
open Go Go.RowKit Go.Proofs.Ytaljcpoopmedmaa.Ms
set_option linter.unusedVariables false
set_option linter.unusedSimpArgs false
set_option linter.unusedSectionVars false
set_option maxRecDepth 100000
set_option maxHeartbeats 2000000
/-! ### a cut of a slice -/
noncomputable def slcO (size : Nat) (x y : Option AV) : Option AV := ob x (fun v => sSliceC v
    (ob (ob y (fun x => sInt x (fun _ n => Int.casesOn (motive := fun _ => Option Nat) n (fun m => some m) (fun _ => none)))) (fun hi' => oif (Nat.beq (Nat.add hi' 0) 0) (some (AV.s .nilSlice)) none))
    (fun b off len mc ex sz => ob (ob y (fun x => sInt x (fun _ n => Int.casesOn (motive := fun _ => Option Nat) n (fun m => some m) (fun _ => none)))) (fun hi' =>
      oif (Nat.ble hi' mc) (oif (Nat.ble 0 hi') (oif (Nat.beq sz size) (some (AV.s (.slice b (Nat.add off (Nat.mul 0 size)) (Nat.sub hi' 0) (Nat.sub mc 0) ex sz))) none) none) none))
    (fun rows => ob (ob y (fun x => sInt x (fun _ n => Int.casesOn (motive := fun _ => Option Nat) n (fun m => some m) (fun _ => none)))) (fun hi' =>
      oif (Nat.ble hi' (llen rows)) (oif (Nat.ble 0 hi') (oif (rowsOk size rows) (ob (ltake (Nat.sub hi' 0) (ldrop 0 rows)) (fun r => some (AV.s (.lst r)))) none) none) none))
    (ob (ob y (fun x => sInt x (fun _ n => Int.casesOn (motive := fun _ => Option Nat) n (fun m => some m) (fun _ => none)))) (fun hi' => oif (Nat.beq (Nat.add hi' 0) 0) (some (AV.s .emp)) none)))
theorem pop_slice_hi {st fr : List AV} {size : Nat} {x y : Od} : pop st fr (.slice size x none (some y)) = slcO size (ev st fr x) (ev st fr y) := rfl
theorem slcO_ok {size b off len mc k : Nat} {ex : Bool} (hk : k ≤ mc) : slcO size (some (AV.s (.slice b off len mc ex size))) (some (vi (k : Int))) = some (AV.s (.slice b off k mc ex size)) := by
  show oif (Nat.ble k mc) (oif (Nat.ble 0 k) (oif (Nat.beq size size) (some (AV.s (SV.slice b (Nat.add off (Nat.mul 0 size)) (Nat.sub k 0) (Nat.sub mc 0) ex size))) none) none) none = _
  rw [show Nat.ble k mc = true from Nat.ble_eq_true_of_le hk, show Nat.ble 0 k = true from Nat.ble_eq_true_of_le (Nat.zero_le _), Nat.beq_refl]
  show some (AV.s (SV.slice b (off + 0 * size) (k - 0) (mc - 0) ex size)) = _
  simp
/-! ### a way through the builder -/
structure FS (h0 hi : Hp) (p : Nat) (w : Ms) (ns : List Nat) (L : List (Nat × AB)) (ns' : List Nat) : Prop where
  ok : Ok hi
  mr : MR tt hi p w ns'
  mv : Mv h0 hi ns ns'
  kp : ∀ q ∈ L, hi.get q.1 = some q.2 ∧ h0.next ≤ q.1 ∧ q.1 < hi.next ∧ q.1 ∉ ns'
section
variable {h0 hi : Hp} {p : Nat} {w : Ms} {ns ns' : List Nat} {L : List (Nat × AB)}
theorem FS.pos (k : FS h0 hi p w ns L ns') : 1 ≤ hi.next := by
  obtain ⟨⟨a, b, c, n1, n2, n3, h1, h2, h3, h4, e⟩, h5, h6⟩ := k.mr
  have := h6 p (by simp [e]); omega
theorem FS.sub {L' : List (Nat × AB)} (k : FS h0 hi p w ns L ns') (h : ∀ q ∈ L', q ∈ L) : FS h0 hi p w ns L' ns' := ⟨k.ok, k.mr, k.mv, fun q hq => k.kp q (h q hq)⟩
theorem FS.step {h2 : Hp} {w2 : Ms} {ns2 : List Nat} (k : FS h0 hi p w ns L ns') (m : MR tt h2 p w2 ns2) (v : Mv hi h2 ns' ns2) : FS h0 h2 p w2 ns L ns2 :=
  ⟨v.ok, m, k.mv.trans v, fun q hq => by
    obtain ⟨h1, h3, h4, h5⟩ := k.kp q hq
    refine ⟨(v.keep _ h4 h5).trans h1, h3, Nat.lt_of_lt_of_le h4 v.nx, fun h6 => ?_⟩
    rcases v.new _ h6 with h7 | h7
    · exact h5 h7
    · omega⟩
/-- a step that takes in what is kept first -/
theorem FS.step1 {h2 : Hp} {w2 : Ms} {ns2 : List Nat} {b : Nat} {a : AB} (k : FS h0 hi p w ns ((b, a) :: L) ns') (hb : ∀ q ∈ L, q.1 ≠ b) (m : MR tt h2 p w2 ns2) (v : Mv hi h2 (ns' ++ [b]) ns2) : FS h0 h2 p w2 ns L ns2 := by
  have hb0 := k.kp (b, a) (by simp)
  have hmv := k.mv
  refine ⟨v.ok, m, ⟨v.ok, Nat.le_trans hmv.nx v.nx, fun n hn => ?_, fun n h1 h3 => ?_⟩, fun q hq => ?_⟩
  · rcases v.new n hn with h1 | h1
    · rcases List.mem_append.1 h1 with h3 | h3
      · exact hmv.new n h3
      · obtain rfl := List.mem_singleton.1 h3; exact .inr hb0.2.1
    · exact .inr (Nat.le_trans hmv.nx h1)
  · rw [v.keep n (Nat.lt_of_lt_of_le h1 hmv.nx) (fun h5 => by
      rcases List.mem_append.1 h5 with h6 | h6
      · rcases hmv.new n h6 with h7 | h7
        · exact h3 h7
        · omega
      · obtain rfl := List.mem_singleton.1 h6; have := hb0.2.1; simp only at this; omega)]
    exact hmv.keep n h1 h3
  · obtain ⟨h1, h3, h4, h5⟩ := k.kp q (List.mem_cons_of_mem _ hq)
    refine ⟨(v.keep _ h4 (fun h6 => by
      rcases List.mem_append.1 h6 with h7 | h7
      · exact h5 h7
      · exact hb q hq (List.mem_singleton.1 h7))).trans h1, h3, Nat.lt_of_lt_of_le h4 v.nx, fun h6 => ?_⟩
    rcases v.new _ h6 with h7 | h7
    · rcases List.mem_append.1 h7 with h8 | h8
      · exact h5 h8
      · exact hb q hq (List.mem_singleton.1 h8)
    · omega
theorem FS.push {a : AB} (k : FS h0 hi p w ns L ns') : FS h0 (hi.push a) p w ns ((hi.next, a) :: L) ns' := by
  have g : ∀ n, n < hi.next → (hi.push a).get n = hi.get n := fun n hn => by rw [get_push k.ok, if_neg (by omega)]
  have hmv := k.mv
  have hnx := hmv.nx
  refine ⟨Ok_push k.ok, k.mr.keep (fun n hn => g n (k.mr.lt n hn).2) (by rw [Hp.next_push]; omega), ⟨Ok_push k.ok, by rw [Hp.next_push]; omega, hmv.new, fun n h1 h3 => (g n (by omega)).trans (hmv.keep n h1 h3)⟩, fun q hq => ?_⟩
  rcases List.mem_cons.1 hq with rfl | hq
  · exact ⟨by rw [get_push k.ok, if_pos rfl], hnx, by rw [Hp.next_push]; omega, fun h1 => by have := (k.mr.lt _ h1).2; omega⟩
  · obtain ⟨h1, h3, h4, h5⟩ := k.kp q hq
    exact ⟨(g _ h4).trans h1, h3, by rw [Hp.next_push]; omega, h5⟩
theorem FS.put {b : Nat} {a a' : AB} (k : FS h0 hi p w ns ((b, a) :: L) ns') (hb : ∀ q ∈ L, q.1 ≠ b) (hpos : 1 ≤ h0.next) : FS h0 (hi.put b (some a')) p w ns ((b, a') :: L) ns' := by
  obtain ⟨h1, h3, h4, h5⟩ := k.kp (b, a) (by simp)
  have hb1 : 1 ≤ b := Nat.le_trans hpos h3
  have g : ∀ n, n ≠ b → (hi.put b (some a')).get n = hi.get n := fun n hn => by rw [get_put k.ok hb1, if_neg hn]
  have hmv := k.mv
  have hnx := hmv.nx
  simp only at h3 h5
  refine ⟨Ok_put k.ok, k.mr.keep (fun n hn => g n (fun e => h5 (e ▸ hn))) (by rw [Hp.next_put]; omega), ⟨Ok_put k.ok, by rw [Hp.next_put]; omega, hmv.new, fun n h6 h7 => (g n (by omega)).trans (hmv.keep n h6 h7)⟩, fun q hq => ?_⟩
  rcases List.mem_cons.1 hq with rfl | hq
  · exact ⟨by rw [get_put k.ok hb1, if_pos rfl], h3, by rw [Hp.next_put]; exact h4, h5⟩
  · obtain ⟨h6, h7, h8, h9⟩ := k.kp q (List.mem_cons_of_mem _ hq)
    exact ⟨(g _ (hb q hq)).trans h6, h7, by rw [Hp.next_put]; exact h8, h9⟩
/-- the builder's own cells -/
theorem FS.cells (k : FS h0 hi p w ns L ns') : ∃ a b c, hi.get p = some (.arr [si w.m.1, si w.m.2, a, b, si w.cur, c, si w.all] tt.mas) ∧ lenV (.s c) = some (vi w.known.length) ∧ lenV (.s b) = some (vi w.blocks.length) := by
  obtain ⟨⟨a, b, c, n1, n2, n3, h1, h2, h3, h4, e⟩, h5, h6⟩ := k.mr
  exact ⟨a, b, c, h1, h4.len, h3.len⟩
theorem FS.setcur {a b c : SV} {j : Nat} (k : FS h0 hi p w ns L ns') (hg : hi.get p = some (.arr [si w.m.1, si w.m.2, a, b, si w.cur, c, si w.all] tt.mas)) : FS h0 (hi.put p (some (.arr [si w.m.1, si w.m.2, a, b, si j, c, si w.all] tt.mas))) p { w with cur := j } ns L ns' := by
  obtain ⟨⟨a', b', c', n1, n2, n3, h1, h2, h3, h4, e⟩, h5, h6⟩ := id k.mr
  subst e
  rw [h1] at hg
  simp only [Option.some.injEq, AB.arr.injEq, List.cons.injEq] at hg
  obtain ⟨⟨_, _, rfl, rfl, _, rfl, _⟩, _⟩ := hg
  have hp := h6 p (by simp)
  refine k.step (MR.mk_put (w' := { w with cur := j }) k.ok h2 h3 h4 h5 h6) ⟨Ok_put k.ok, by rw [Hp.next_put]; omega, fun n hn => .inl hn, fun n h7 h8 => ?_⟩
  rw [get_put k.ok hp.1, if_neg (fun e => h8 (by simp [e]))]
end
end Go.Proofs.Ytaljcpoopmedmaa.Ev

/- The builders of functions: steps of a way through the builder, told. -/
namespace Go.Proofs.Ytaljcpoopmedmaa.Ev
open Go Go.RowKit Go.Proofs.Ytaljcpoopmedmaa.Ms
set_option linter.unusedVariables false
set_option linter.unusedSimpArgs false
set_option linter.unusedSectionVars false
set_option maxRecDepth 100000
set_option maxHeartbeats 2000000
section
variable {h0 hi : Hp} {p : Nat} {w : Ms} {ns ns' : List Nat} {L : List (Nat × AB)} {N : Nat}
theorem fs_lay (k : FS h0 hi p w ns L ns') (wk : Wok w N) (hN : N ≤ 79000) {pc : Pc} (pin : Pin pc) : WC F2 32 [.s (.ptr p 0), .agg (encP pc)] hi (fun v h' => v = .tup [] ∧ ∃ ns'', FS h0 h' p (layS w pc) ns L ns'') :=
  WC.imp (lay_ok base2 k.ok k.mr wk (by omega) pc pin) (fun v h' ⟨e, ns2, m, mv⟩ => ⟨e, ns2, k.step m mv⟩)
theorem fs_newest (k : FS h0 hi p w ns L ns') (wk : Wok w N) (hN : N ≤ 79000) {cls : Nat} (hc : cls < 2) {pc : Pc} (pin : Pin pc) : WC F2 49 [.s (.ptr p 0), vi cls, .agg (encP pc)] hi (fun v h' => v = vi (newestS w cls pc).1 ∧ ∃ ns'', FS h0 h' p (newestS w cls pc).2 ns L ns'') :=
  WC.imp (newest_ok base2 k.ok k.mr wk hN cls hc pc pin) (fun v h' ⟨e, ns2, m, mv⟩ => ⟨e, ns2, k.step m mv⟩)
theorem fs_block0 (k : FS h0 hi p w ns L ns') (wk : Wok w N) (hN : N ≤ 79000) : WC F2 29 [.s (.ptr p 0), .s .nilSlice] hi (fun v h' => v = vi w.blocks.length ∧ ∃ ns'', FS h0 h' p (blockS w []) ns L ns'') :=
  WC.imp (block_ok k.ok k.mr wk.nv wk.nb hN (cs := []) (nsx := []) Sl.nil (by simp) (by simp) (by simp)) (fun v h' ⟨e, ns2, m, mv⟩ => ⟨e, ns2, k.step m mv⟩)
theorem Sl_two {hi : Hp} {b c d ty : Nat} (h : hi.get b = some (.arr [si c, si d] ty)) : Sl hi ty 1 true EI (.slice b 0 2 2 true 1) [c, d] [b] :=
  .inr ⟨by simp, b, [[si c], [si d]], [], rfl, h, by
    have := Rows.cons (sz := 1) (E := EI) (row := [si c]) (a := c) (ns := []) rfl ⟨rfl, rfl⟩ (Rows.cons (sz := 1) (E := EI) (row := [si d]) (a := d) (ns := []) rfl ⟨rfl, rfl⟩ .nil)
    exact this, rfl⟩
theorem fs_block2 {b c : Nat} (k : FS h0 hi p w ns ((b, .arr [si c, si (0 : Nat)] 3) :: L) ns') (wk : Wok w N) (hN : N ≤ 79000) (hc : c < 2) : WC F2 29 [.s (.ptr p 0), .s (.slice b 0 2 2 true 1)] hi (fun v h' => v = vi w.blocks.length ∧ ∃ ns'', FS h0 h' p (blockS w [c, 0]) ns L ns'') := by
  obtain ⟨h1, h2, h3, h4⟩ := k.kp _ (List.mem_cons_self ..)
  refine WC.imp (block_ok k.ok k.mr wk.nv wk.nb hN (cs := [c, 0]) (nsx := [b]) (Sl_two h1) (by simp) (fun x hx => ?_) (fun n hn => ?_)) (fun v h' ⟨e, ns2, m, mv⟩ => ⟨e, ns2, (k.step m mv).sub (fun q hq => List.mem_cons_of_mem _ hq)⟩)
  · simp at hx; omega
  · obtain rfl := List.mem_singleton.1 hn; exact ⟨h3, h4⟩
theorem fs_edge0 (k : FS h0 hi p w ns L ns') (wk : Wok w N) (hN : N ≤ 79000) {a to : Nat} (ha : a < w.blocks.length) : WC F2 48 [.s (.ptr p 0), vi a, vi to, .s .nilSlice] hi (fun v h' => v = .tup [] ∧ ∃ ns'', FS h0 h' p (edgeS w a to []) ns L ns'') :=
  WC.imp (edge_ok base2 k.ok k.mr wk (by omega) (args := []) (n1 := []) ha Sl.nil .nil (by simp)) (fun v h' ⟨e, ns2, m, mv⟩ => ⟨e, ns2, k.step m (by simpa using mv)⟩)
theorem fs_edge2 {b x y : Nat} (k : FS h0 hi p w ns ((b, .arr [si x, si y] 3) :: L) ns') (hb : ∀ q ∈ L, q.1 ≠ b) (hpos : 1 ≤ h0.next) (wk : Wok w N) (hN : N ≤ 79000) {a to : Nat} (ha : a < w.blocks.length) : WC F2 48 [.s (.ptr p 0), vi a, vi to, .s (.slice b 0 2 2 true 1)] hi (fun v h' => v = .tup [] ∧ ∃ ns'', FS h0 h' p (edgeS w a to [x, y]) ns L ns'') := by
  obtain ⟨h1, h2, h3, h4⟩ := k.kp _ (List.mem_cons_self ..)
  refine WC.imp (edge_ok base2 k.ok k.mr wk (by omega) (args := [x, y]) (n1 := [b]) ha (Sl_two h1) (by simp) (fun n hn => ?_)) (fun v h' ⟨e, ns2, m, mv⟩ => ⟨e, ns2, k.step1 hb m mv⟩)
  obtain rfl := List.mem_singleton.1 hn
  simp only at h2 h3
  exact ⟨by omega, h3, h4⟩
theorem FS.setknown {a b y : SV} {n1 n2 n3 n3' : List Nat} {kn : List Nat} (k : FS h0 hi p w ns L (p :: (n1 ++ (n2 ++ n3)))) (hv : Sl hi tt.int 1 false EI a w.values n1) (hb : Sl hi tt.blk 3 false (EB tt hi) b w.blocks n2) {h2 : Hp} (ok2 : Ok h2) (nx : hi.next ≤ h2.next)
    (kp : ∀ n, n < hi.next → n ∉ n3 → h2.get n = hi.get n) (hk : Sl h2 tt.int 1 false EI y kn n3') (nd : n3'.Nodup) (hn : ∀ n ∈ n3', (n ∈ n3 ∨ hi.next ≤ n) ∧ n < h2.next) :
    FS h0 (h2.put p (some (.arr [si w.m.1, si w.m.2, a, b, si w.cur, y, si w.all] tt.mas))) p { w with known := kn } ns L (p :: (n1 ++ (n2 ++ n3'))) := by
  have hd := k.mr.nodup
  have lt := k.mr.lt
  have hdt := (List.nodup_cons.1 hd).2
  have hd1 := List.nodup_append.1 hdt
  have hd2 := List.nodup_append.1 hd1.2.1
  have q1 : ∀ n ∈ n1, h2.get n = hi.get n := fun n hm => kp n (lt n (by simp [hm])).2 (fun h3 => hd1.2.2 n hm n (by simp [h3]) rfl)
  have q2 : ∀ n ∈ n2, h2.get n = hi.get n := fun n hm => kp n (lt n (by simp [hm])).2 (fun h3 => hd2.2.2 n hm n h3 rfl)
  have nd' : (n1 ++ (n2 ++ n3')).Nodup := by
    have := nodup_repl2 (A := n1 ++ n2) (ns := n3) (B := []) (ns' := n3') (by simpa using hdt) nd (fun n hm => by
      rcases (hn n hm).1 with h3 | h3
      · exact .inl h3
      · exact .inr (fun h4 => by have := (lt n (by simp at h4 ⊢; exact .inr h4)).2; omega))
    simpa using this
  have u := MR.upd (t := tt) (w' := { w with known := kn }) hd lt k.pos ok2 nx (hv.keep q1) (hb.imp q2 (fun row a ms hm k => k.keep (fun n hn => q2 n (hm n hn)))) hk nd' (fun n hm => by
    rcases List.mem_append.1 hm with h3 | h3
    · exact ⟨.inl (by simp [h3]), by have := (lt n (by simp [h3])).2; omega⟩
    · rcases List.mem_append.1 h3 with h4 | h4
      · exact ⟨.inl (by simp [h4]), by have := (lt n (by simp [h4])).2; omega⟩
      · exact ⟨(hn n h4).1.imp (fun h5 => by simp [h5]) id, (hn n h4).2⟩) (fun n h3 h4 => kp n h3 (fun h5 => h4 (by simp [h5])))
  exact k.step u.1 u.2
theorem rowsI_of {rows : List (List SV)} {l ns : List Nat} (k : Rows 1 EI rows l ns) : rows = l.map (fun (n : Nat) => [si (n : Int)]) ∧ ns = [] := by
  induction k with
  | nil => exact ⟨rfl, rfl⟩
  | cons h1 h2 _ ih =>
    obtain ⟨rfl, rfl⟩ := h2
    obtain ⟨rfl, rfl⟩ := ih
    exact ⟨rfl, rfl⟩
theorem rowsI : ∀ (l : List Nat), Rows 1 EI (l.map (fun (n : Nat) => [si (n : Int)])) l []
  | [] => .nil
  | a :: l => by
    have := Rows.cons (sz := 1) (E := EI) (row := [si a]) (a := a) (ns := []) rfl ⟨rfl, rfl⟩ (rowsI l)
    exact this
theorem flatI (l : List Nat) : (l.map (fun (n : Nat) => [si (n : Int)])).flatten = l.map (fun (n : Nat) => si (n : Int)) := by
  induction l with
  | nil => rfl
  | cons a l ih => simp [ih]
/-- known is cut off: what the code sees -/
theorem FS.take (k : FS h0 hi p w ns L ns') {j : Nat} (hj : 1 ≤ j) (hj2 : j ≤ w.known.length) (hN : w.known.length ≤ 100000) : ∃ a b c x y h2 ns2, hi.get p = some (.arr [si w.m.1, si w.m.2, a, b, si w.cur, c, si w.all] tt.mas) ∧ slcO 1 (some (.s c)) (some (vi (j : Int))) = some (.s x) ∧ appV hi 3 1 8 (.s .nilSlice) (.s x) = some (.s y, h2) ∧ Ok h2 ∧ h2.get p = hi.get p ∧
    FS h0 (h2.put p (some (.arr [si w.m.1, si w.m.2, a, b, si w.cur, y, si w.all] tt.mas))) p { w with known := w.known.take j } ns L ns2 := by
  obtain ⟨⟨a, b, c, n1, n2, n3, h1, h2, h3, h4, e⟩, h5, h6⟩ := id k.mr
  subst e
  rcases h4 with ⟨e, _, _⟩ | ⟨hne, bk, rows, nss, rfl, hg, hR, rfl⟩
  · rw [e] at hj2; simp at hj2; omega
  · obtain ⟨rfl, rfl⟩ := rowsI_of hR
    have hl : (w.known.take j).length = j := by rw [List.length_take]; omega
    have hrd : rdB (hi.get bk) 0 ((w.known.take j).length * 1) = some ((w.known.take j).map (fun (n : Nat) => [si (n : Int)])).flatten := by
      rw [hg, rdB_arr]
      refine (ltake_some _).2 ⟨?_, ?_⟩
      · rw [hl, flatI]; simp [ldrop_eq]; omega
      · rw [hl, flatI, flatI, ldrop_eq, Nat.mul_one, List.drop_zero, List.map_take]
    have hpos := k.pos
    obtain ⟨h7, e7, ok7, n7, kp7, sl7⟩ := (Sl.nil (h := hi) (ty := 3) (sz := 1) (ex := false) (E := EI)).app (bytes := 8) (b' := bk) (o' := 0) (mc' := w.known.length) (ex' := false) (l' := w.known.take j) (ms := []) k.ok (by simp) hrd (rowsI _) (by intro e; rw [e] at hl; simp at hl; omega) (by simp; omega) (by simp; omega)
    rw [hl] at e7 sl7
    have hp := h6 p (by simp)
    have kp8 : ∀ n, n < hi.next → h7.get n = hi.get n := fun n hn => kp7 n (by omega) (by simp)
    refine ⟨a, b, _, _, _, h7, _, h1, slcO_ok hj2, e7, ok7, kp8 p hp.2, k.setknown h2 h3 ok7 (by omega) (fun n hn _ => kp8 n hn) (sl7 (E' := EI) (fun _ _ _ _ h => h)) (by simp) (fun n hn => ?_)⟩
    simp at hn; subst hn
    exact ⟨.inr (Nat.le_refl _), by omega⟩
/-- a block's own values become known: what the code sees -/
theorem FS.params (k : FS h0 hi p w ns L ns') {j : Nat} {blk : Blk} (hj : w.blocks[j]? = some blk) (hne : blk.params ≠ []) (hN : w.known.length + blk.params.length ≤ 100000) : ∃ a b c bb pp y h2 ns2, hi.get p = some (.arr [si w.m.1, si w.m.2, a, b, si w.cur, c, si w.all] tt.mas) ∧ ixsV 3 (.s b) (vi (j : Int)) = some (.s (.ptr bb (j * 3))) ∧ rdB (hi.get bb) (j * 3) 1 = some [pp] ∧
    appV hi 3 1 8 (.s c) (.s pp) = some (.s y, h2) ∧ Ok h2 ∧ h2.get p = hi.get p ∧
    FS h0 (h2.put p (some (.arr [si w.m.1, si w.m.2, a, b, si w.cur, y, si w.all] tt.mas))) p { w with known := w.known ++ blk.params } ns L ns2 := by
  obtain ⟨⟨a, b, c, n1, n2, n3, h1, h2, h3, h4, e⟩, h5, h6⟩ := id k.mr
  subst e
  obtain ⟨bb, row, ms, ix, hrd, hrl, ⟨pp, ia, ee, na, nb, nc, rfl, sp, sI, sE, rfl⟩, hms, hbb⟩ := h3.at hj
  have rd1 := rdB_field (j := 0) (c := pp) hrd rfl
  rcases sp with ⟨e, _, _⟩ | ⟨_, bp, rows, nss, rfl, hg, hR, rfl⟩
  · exact absurd e hne
  · obtain ⟨rfl, rfl⟩ := rowsI_of hR
    have hl2 : (blk.params.map (fun (n : Nat) => [si (n : Int)])).flatten.length = blk.params.length := by rw [flatI, List.length_map]
    have hrd2 : rdB (hi.get bp) 0 (blk.params.length * 1) = some (blk.params.map (fun (n : Nat) => [si (n : Int)])).flatten := by
      rw [hg, rdB_arr]
      refine (ltake_some _).2 ⟨?_, ?_⟩
      · simp only [ldrop_eq, List.drop_zero, hl2]; omega
      · simp only [ldrop_eq, List.drop_zero]
        rw [List.take_of_length_le (by rw [hl2]; omega)]
    obtain ⟨h7, e7, ok7, n7, kp7, sl7⟩ := h4.app (bytes := 8) (mc' := blk.params.length) (ex' := false) (l' := blk.params) (ms := []) k.ok (fun n hn => h6 n (by simp [hn])) hrd2 (rowsI _) hne (by omega) (by omega)
    have hp := h6 p (by simp)
    have hd := h5
    have hdt := (List.nodup_cons.1 hd).2
    have hd1 := List.nodup_append.1 hdt
    have hd2 := List.nodup_append.1 hd1.2.1
    have kp8 : ∀ n, n < hi.next → n ∉ n3 → h7.get n = hi.get n := fun n hn h8 => kp7 n (by omega) (fun b hb e => h8 (e ▸ List.mem_of_mem_head? hb))
    have hp3 : p ∉ n3 := fun h8 => (List.nodup_cons.1 hd).1 (by simp [h8])
    have hf : hi.next ∉ n3 := fun h8 => by have := (h6 hi.next (by simp [h8])).2; omega
    refine ⟨a, b, c, bb, _, _, h7, _, h1, ix, rd1, e7, ok7, kp8 p hp.2 hp3, k.setknown h2 h3 ok7 (by omega) kp8 (sl7 (E' := EI) (fun _ _ _ _ h => h)) (nodup_app hd2.2.1 .nil (by simp) hf (by simp)) (fun n hn => ?_)⟩
    rcases List.mem_cons.1 hn with rfl | hn
    · exact ⟨.inr (Nat.le_refl _), by omega⟩
    · have h8 := List.mem_of_mem_tail (by simpa using hn)
      exact ⟨.inl h8, by have := (h6 n (by simp [h8])).2; omega⟩
end
end Go.Proofs.Ytaljcpoopmedmaa.Ev

/- Appending to a list of the call's own, the source nil, empty or not: what the walk takes at such an operation. Conditions: the element type's row of the table, room below 2^47 bytes. -/
import Derived.Test.YtmaaalpegnhjcaaDoorKit
import Derived.Maps.AppendAt
import Derived.Deep.AppendLies
import Derived.RegionTactic
import Derived.OwnWalk
namespace Go.Proofs.YtmaaalpegnhjcaaDoor
open Go.RowKit
set_option linter.unusedVariables false

/-- slice type t over element type e: so many cells, so many bytes an element. -/
structure SlT (P : Program) (t e : TypeId) (size bytes : Nat) : Prop where
  under : P.underlying t = some (.slice e)
  pos : 0 < size
  info : ∃ i z, P.info? e = some i ∧ i.zero = some z ∧ i.size = size ∧ i.bytes = bytes ∧ z.cells.size = size
theorem SlT.mk' {P : Program} {t e : TypeId} {size bytes : Nat} {z : Value} (h : P.underlying t = some (.slice e)) (hi : (P.info? e).map (fun i => (i.zero, i.size, i.bytes)) = some (some z, size, bytes)) (hz : z.cells.size = size) (hp : 0 < size) : SlT P t e size bytes := by
  obtain ⟨i, h1, h2, h3, h4⟩ := info_parts hi
  exact ⟨h, hp, i, z, h1, h2, h3, h4, hz⟩

/-- What an append reads: m elements, these cells. -/
def Src (w : World) (size : Nat) (A : Option Addr) (m : Nat) (news : List Value) : Prop :=
  news.length = m * size ∧ (0 < m → ∃ ad, A = some ad ∧ ∀ j u, news[j]? = some u → w.cell? (ad.add j) = some u)

theorem Nums.src {k : IntKind} {w : World} {A : Option Addr} {xs : List Int} {n : Nat} (h : Nums k w A xs) (hn : xs.length = n) : Src w 1 A n (xs.map (Value.int k)) := by
  refine ⟨by simp [hn], fun h0 => ?_⟩
  obtain ⟨b, off, rfl, hc⟩ := h 0 (by omega)
  refine ⟨_, rfl, fun j u hu => ?_⟩
  rw [List.getElem?_map] at hu
  obtain ⟨x, hx, rfl⟩ := Option.map_eq_some_iff.1 hu
  obtain ⟨hj, hx⟩ := List.getElem?_eq_some_iff.1 hx
  have := hc j hj
  rw [hx] at this
  rw [← this]
  unfold Addr.add
  split
  · rename_i h0; subst h0; rfl
  · rfl

/-- a row that the call owns reads as its numbers -/
theorem nums_of_own {w : World} {base : Nat} {e : TypeId} {v : Value} {n : Nat} {k : IntKind} {xs : List Int} (h : w.ownsRow base e 1 v n (xs.map (Value.int k))) :
    ∃ A cap, v = .slice A n cap ∧ Nums k w A xs ∧ xs.length = n ∧ n ≤ maxLen := by
  have hl : xs.length = n := by have := h.1; simpa using this
  rcases h.2 with ⟨rfl, rfl⟩ | ⟨g, cap, cur, rfl, hb, hh, hnc, hm, hs, ht⟩
  · exact ⟨_, _, rfl, fun i hi => by omega, hl, by simp⟩
  · refine ⟨_, _, rfl, fun i hi => ⟨g, 0, rfl, fun j hj => ?_⟩, hl, by omega⟩
    have hc := h.cells (g := g) rfl j (.int k xs[j]) (by simp [hj])
    rw [← hc]
    unfold Addr.add
    split
    · rename_i h0; subst h0; rfl
    · rfl

section
variable {P : Program} {w : World}
theorem run_app {base : Nat} {t ty e : TypeId} {size bytes : Nat} (T : SlT P t e size bytes) {v : Value} {n : Nat} {xs : List Value} (hown : w.ownsRow base e size v n xs)
    {A : Option Addr} {m c : Nat} {news : List Value} (hsrc : Src w size A m news) (h1 : ∀ u ∈ news, u.oneCell' = true)
    (h63 : n + m ≤ maxLen) (hbytes : (n + m) * bytes ≤ 140737488355328) (hbase : base ≤ w.heap.size) :
    ∃ v' w', (Builtin.append_ #[t, t] ty #[v, .slice A m c]).run P w = .ok v' w' ∧ w'.ownsRow base e size v' (n + m) (xs ++ news) ∧ w.grownBy w' v.ownBlock ∧
      (v'.ownBlock = v.ownBlock ∨ v'.ownBlock = some w.heap.size) := by
  obtain ⟨ht, hp, i, z, hi, hz, hsize, hby, hzs⟩ := T
  cases A with
  | some ad =>
    have hcells : ∀ j u, news[j]? = some u → w.cell? (ad.add j) = some u := fun j u hu => by
      rcases Nat.eq_zero_or_pos m with h0 | h0
      · subst h0
        have : news = [] := List.eq_nil_of_length_eq_zero (by simpa using hsrc.1)
        subst this; simp at hu
      · obtain ⟨_, h, hc⟩ := hsrc.2 h0
        cases h
        exact hc j u hu
    obtain ⟨v', w', hr, ho, hg, _, hb⟩ := run_append_own_at (P := P) w base t ty e i z size bytes ht hi hz hsize hby hzs hp v n xs hown ad m c news hsrc.1 hcells h1 h63 hbytes hbase
    exact ⟨v', w', hr, ho, hg, hb⟩
  | none =>
    have hm : m = 0 := by
      rcases Nat.eq_zero_or_pos m with h0 | h0
      · exact h0
      · obtain ⟨_, h, _⟩ := hsrc.2 h0; cases h
    subst hm
    have hn : news = [] := List.eq_nil_of_length_eq_zero (by simpa using hsrc.1)
    subst hn
    refine ⟨v, w, ?_, by simpa using hown, World.grownBy.refl w _, .inl rfl⟩
    rcases hown.2 with ⟨rfl, rfl⟩ | ⟨g, cap, cur, rfl, _, _, hnc, _⟩
    · simp [Builtin.append_, run_underlying ht, sizeOf, typeInfo, hi, Builtin.lenOf, Builtin.firstCells]
    · simp [Builtin.append_, run_underlying ht, sizeOf, typeInfo, hi, Builtin.lenOf, Builtin.firstCells, hnc, storeCells]

/-- 'append(s, x...)' in a plain region. -/
theorem wpList_app {base : Nat} {t e : TypeId} {size bytes : Nat} (T : SlT P t e size bytes)
    {v : Value} {n : Nat} {xs : List Value} (hown : w.ownsRow base e size v n xs) {A : Option Addr} {m c : Nat} {news : List Value} (hsrc : Src w size A m news) (h1 : ∀ u ∈ news, u.oneCell' = true)
    {ops : Array Oper} {rest : List Oper} {o : Oper} {a : Act} {Q : Exit → Act → World → Prop} (hgd : o.guard = none) {s x : Operand}
    (ho : o.op = .call { callee := .builtin .append, args := #[s, x], argTypes := #[t, t] }) (hs : a.eval s = v) (hx : a.eval x = .slice A m c)
    (h63 : n + m ≤ maxLen) (hbytes : (n + m) * bytes ≤ 140737488355328) (hbase : base ≤ w.heap.size)
    (h : ∀ v' w', w'.ownsRow base e size v' (n + m) (xs ++ news) → w.grownBy w' v.ownBlock → (v'.ownBlock = v.ownBlock ∨ v'.ownBlock = some w.heap.size) → wpList P ops Q rest (a.put o.dst v') w') :
    wpList P ops Q (o :: rest) a w := by
  obtain ⟨v', w', hrun, h2, h3, h4⟩ := run_app (ty := o.type) T hown (c := c) hsrc h1 h63 hbytes hbase
  refine wpList_plain hgd fun K hK => ?_
  unfold Oper.wp execOp
  simp only [ho, resolve, invoke, builtin, Sem.run_bind, Sem.run_pure, Result.andThen_ok, List.map_toArray, List.map_cons, List.map_nil, hs, hx, hrun]
  exact hK _ _ (h v' w' h2 h3 h4)
/-- 'append(s, x...)' in a region that draws its order. -/
theorem step_app {base : Nat} {t e : TypeId} {size bytes : Nat} (T : SlT P t e size bytes)
    {v : Value} {n : Nat} {xs : List Value} (hown : w.ownsRow base e size v n xs) {A : Option Addr} {m c : Nat} {news : List Value} (hsrc : Src w size A m news) (h1 : ∀ u ∈ news, u.oneCell' = true)
    {ops : Array Oper} {o : Oper} {a : Act} {K : Act → World → Prop} {Q : Exit → Act → World → Prop} {E : Prop} (hgd : o.guard = none) {s x : Operand}
    (ho : o.op = .call { callee := .builtin .append, args := #[s, x], argTypes := #[t, t] }) (hs : a.eval s = v) (hx : a.eval x = .slice A m c)
    (h63 : n + m ≤ maxLen) (hbytes : (n + m) * bytes ≤ 140737488355328) (hbase : base ≤ w.heap.size)
    (h : ∀ v' w', w'.ownsRow base e size v' (n + m) (xs ++ news) → w.grownBy w' v.ownBlock → (v'.ownBlock = v.ownBlock ∨ v'.ownBlock = some w.heap.size) → K (a.put o.dst v') w') :
    if Region.wanted o (yielded ops a.tmps) = true then Oper.wp P o a w K Q else E := by
  have hw : Region.wanted o (yielded ops a.tmps) = true := by simp [Region.wanted, hgd]
  rw [if_pos hw]
  obtain ⟨v', w', hrun, h2, h3, h4⟩ := run_app (ty := o.type) T hown (c := c) hsrc h1 h63 hbytes hbase
  unfold Oper.wp execOp
  simp only [ho, resolve, invoke, builtin, Sem.run_bind, Sem.run_pure, Result.andThen_ok, List.map_toArray, List.map_cons, List.map_nil, hs, hx, hrun]
  exact h v' w' h2 h3 h4
/-- 'append([]T(nil), x...)' in a plain region. -/
theorem wpList_app0 {base : Nat} {t e : TypeId} {size bytes : Nat} (T : SlT P t e size bytes) {A : Option Addr} {m c : Nat} {news : List Value} (hsrc : Src w size A m news) (h1 : ∀ u ∈ news, u.oneCell' = true)
    {ops : Array Oper} {rest : List Oper} {o : Oper} {a : Act} {Q : Exit → Act → World → Prop} (hgd : o.guard = none) {s x : Operand}
    (ho : o.op = .call { callee := .builtin .append, args := #[s, x], argTypes := #[t, t] }) (hs : a.eval s = .slice none 0 0) (hx : a.eval x = .slice A m c)
    (h63 : m ≤ maxLen) (hbytes : m * bytes ≤ 140737488355328) (hbase : base ≤ w.heap.size)
    (h : ∀ v' w', w'.ownsRow base e size v' m news → w.grownBy w' none → wpList P ops Q rest (a.put o.dst v') w') :
    wpList P ops Q (o :: rest) a w := by
  refine wpList_app T (World.ownsRow_nil w base e size) hsrc h1 hgd ho hs hx (by omega) (by rw [Nat.zero_add]; exact hbytes) hbase fun v' w' h2 h3 _ => ?_
  rw [Nat.zero_add, List.nil_append] at h2
  exact h v' w' h2 h3
end
/-- what a new block holds is a source -/
theorem src_new (w : World) (t : TypeId) (size m : Nat) (cs : List Value) (h : cs.length = m * size) : Src (w.alloc (.cells cs.toArray t)) size (some ⟨w.heap.size, 0, none⟩) m cs := by
  refine ⟨h, fun _ => ⟨_, rfl, fun j u hu => ?_⟩⟩
  have e : (⟨w.heap.size, 0, none⟩ : Addr).add j = ⟨w.heap.size, j, none⟩ := by
    unfold Addr.add; split
    · rename_i h0; subst h0; rfl
    · simp
  rw [e, cell_of_row _ _ j cs.toArray t (0, 0) (heap_alloc_new w _)]
  simpa using hu
theorem nums_new (w : World) (t : TypeId) (k : IntKind) (xs : List Int) : Nums k (w.alloc (.cells (xs.map (Value.int k)).toArray t)) (some ⟨w.heap.size, 0, none⟩) xs := by
  intro i hi
  refine ⟨_, _, rfl, fun j hj => ?_⟩
  rw [cell_of_row _ _ _ _ t (0, 0) (heap_alloc_new w _)]
  simp [hj]
theorem own_shape {w : World} {base : Nat} {e : TypeId} {size : Nat} {v : Value} {n : Nat} {xs : List Value} (h : w.ownsRow base e size v n xs) : ∃ A cap, v = .slice A n cap := by
  rcases h.2 with ⟨rfl, rfl⟩ | ⟨g, cap, cur, rfl, _⟩
  · exact ⟨_, _, rfl⟩
  · exact ⟨_, _, rfl⟩
theorem ints_one (k : IntKind) (xs : List Int) : ∀ u ∈ xs.map (Value.int k), u.oneCell' = true := by
  intro u hu
  obtain ⟨x, _, rfl⟩ := List.mem_map.1 hu
  rfl
end Go.Proofs.YtmaaalpegnhjcaaDoor

/- Plain laws of numbers, no program in sight: 'pick' is a number below a bound, 'mix' folds numbers modulo 1000003. Conditions: none but those that each lemma names. -/
namespace Go.Proofs.YtmaaalpegnhjcaaDoor
def pick (n many : Int) : Int := if n < 0 then (-(n+1)) % many else n % many
theorem pick_nn (n m : Int) (h : 0 < m) : 0 ≤ pick n m := by
  unfold pick; split <;> exact Int.emod_nonneg _ (by omega)
theorem pick_lt (n m : Int) (h : 0 < m) : pick n m < m := by
  unfold pick; split <;> exact Int.emod_lt_of_pos _ h
/-- one number mixed in -/
def mixStep (x n : Int) : Int := (x * 31 + n.tmod 1000003 + 1000003) % 1000003
def mixFrom : Int → List Int → Int
  | x, [] => x
  | x, n :: l => mixFrom (mixStep x n) l
def mix (l : List Int) : Int := mixFrom 7 l
theorem mixFrom_append (x : Int) (l r : List Int) : mixFrom x (l ++ r) = mixFrom (mixFrom x l) r := by
  induction l generalizing x with
  | nil => rfl
  | cons a l ih => exact ih _
theorem mix_snoc (l : List Int) (n : Int) : mix (l ++ [n]) = mixStep (mix l) n := mixFrom_append 7 l [n]
theorem tmod_lo (n : Int) : -1000003 < n.tmod 1000003 ∧ n.tmod 1000003 < 1000003 := by
  have h1 := Int.lt_tmod_of_pos n (b := 1000003) (by omega)
  have h2 := Int.tmod_lt_of_pos n (b := 1000003) (by omega)
  exact ⟨h1, h2⟩
theorem mixStep_bd (x n : Int) : 0 ≤ mixStep x n ∧ mixStep x n < 1000003 := by
  unfold mixStep
  constructor
  · exact Int.emod_nonneg _ (by omega)
  · exact Int.emod_lt_of_pos _ (by omega)
theorem mixFrom_bd (l : List Int) : ∀ x : Int, 0 ≤ x → x < 1000003 → 0 ≤ mixFrom x l ∧ mixFrom x l < 1000003 := by
  induction l with
  | nil => exact fun x h k => ⟨h, k⟩
  | cons a l ih => exact fun x _ _ => ih _ (mixStep_bd x a).1 (mixStep_bd x a).2
theorem mix_bd (l : List Int) : 0 ≤ mix l ∧ mix l < 1000003 := mixFrom_bd l 7 (by omega) (by omega)
theorem take_snoc {α : Type} (l : List α) (k : Nat) (h : k < l.length) : l.take (k + 1) = l.take k ++ [l[k]] := by
  rw [List.take_succ_eq_append_getElem h]
theorem mixStep_mod (x a q : Int) : mixStep x (a + 1000003 * q) = mixStep x a := by
  have h1 := Int.tmod_add_mul_tdiv (a + 1000003 * q) 1000003
  have h2 := Int.tmod_add_mul_tdiv a 1000003
  unfold mixStep
  generalize (a + 1000003 * q).tmod 1000003 = t at *
  generalize a.tmod 1000003 = u at *
  generalize (a + 1000003 * q).tdiv 1000003 = v at *
  generalize a.tdiv 1000003 = z at *
  omega
theorem mix_mod (l : List Int) (a q : Int) : mix (l ++ [a + 1000003 * q]) = mix (l ++ [a]) := by
  rw [mix_snoc, mix_snoc, mixStep_mod]
end Go.Proofs.YtmaaalpegnhjcaaDoor

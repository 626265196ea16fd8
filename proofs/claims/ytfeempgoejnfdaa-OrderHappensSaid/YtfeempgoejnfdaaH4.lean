/- The reference's matrix of what happens ahead is the program's: plain law. -/
import Derived.Test.YtfeempgoejnfdaaH3
namespace Go.Proofs.Ytfeempgoejnfdaa.Ord
set_option linter.unusedVariables false
set_option linter.unusedSimpArgs false
theorem warshall (n : Nat) (e : Nat → Nat → Bool) (i j : Nat) : at2 (kW n (fI n e (List.replicate n (List.replicate n false)) n) n) i j = true ↔ Way (fun a b => a < n ∧ b < n ∧ e a b = true) i j := by
  have hz := sq2_zero n
  have hq : Sq2 (fI n e (List.replicate n (List.replicate n false)) n) n := hz.fI _ (Nat.le_refl _)
  constructor
  · refine kW_sound hq (fun a b he => ?_) _ i j
    obtain ⟨h1, h2⟩ := at2_lt hq he
    rw [at2_fI hz a b _ (Nat.le_refl _), if_pos ⟨h1, h2⟩] at he
    exact .one ⟨h1, h2, he⟩
  · intro h
    refine kW_full hq (fun a b he => ?_) _ (Nat.le_refl _) i j (PB.way (fun a b he => ⟨he.1, he.2.1⟩) h)
    rw [at2_fI hz a b _ (Nat.le_refl _), if_pos ⟨he.1, he.2.1⟩]
    exact he.2.2
theorem sq2_ext {x y : List (List Bool)} {n : Nat} (hx : Sq2 x n) (hy : Sq2 y n) (h : ∀ i j, at2 x i j = true ↔ at2 y i j = true) : x = y := by
  refine List.ext_getElem (by rw [hx.1, hy.1]) fun i h1 h2 => ?_
  have hlx : x[i].length = n := hx.2 _ (List.getElem_mem _)
  have hly : y[i].length = n := hy.2 _ (List.getElem_mem _)
  refine List.ext_getElem (by rw [hlx, hly]) fun j h3 h4 => ?_
  have := h i j
  unfold at2 at this
  simp only [List.getD_eq_getElem?_getD, List.getElem?_eq_getElem h1, List.getElem?_eq_getElem h2, Option.getD_some, List.getElem?_eq_getElem h3, List.getElem?_eq_getElem h4] at this
  exact Bool.eq_iff_iff.2 this
theorem aheadC_sq (l : List S76) : Sq2 (aheadC l) l.length := ((sq2_zero l.length).fI l.length (Nat.le_refl _)).kW l.length
theorem aheadC_way (l : List S76) (i j : Nat) : at2 (aheadC l) i j = true ↔ Way (EdgeOf (aheadOf l)) i j := by
  have hE : ∀ a b, (a < l.length ∧ b < l.length ∧ aheadE l a b = true) ↔ EdgeOf (aheadOf l) a b := by
    intro a b
    unfold aheadOf
    rw [join_edge]
    simp [aheadE, relF]
  unfold aheadC
  rw [warshall]
  exact ⟨fun h => h.mono fun a b he => (hE a b).1 he, fun h => h.mono fun a b he => (hE a b).2 he⟩
/-- What order.closed comes to is the reference's matrix. -/
theorem ahead_rows (l : List S76) : ∀ (i : Nat) (r : List Bool), (aheadC l)[i]? = some r → rowC (aheadOf l) (l.length + 2) i = some r := by
  obtain ⟨out, h1, h2, h3, h4⟩ := rows_ways (ahead_sq l)
  have : aheadC l = out := sq2_ext (aheadC_sq l) h3 fun i j => by rw [h4, aheadC_way]
  rw [this]; exact h2
end Go.Proofs.Ytfeempgoejnfdaa.Ord

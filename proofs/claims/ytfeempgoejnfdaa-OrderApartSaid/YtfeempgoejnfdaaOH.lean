/- Plain facts: what graph.cyclic and graph.closed come to, by ways; and that what is Serial is Coherent and Synced. -/
import Derived.Test.YtfeempgoejnfdaaOG
namespace Go.Proofs.Ytfeempgoejnfdaa.Ord
set_option linter.unusedVariables false
set_option linter.unusedSimpArgs false
section
variable {rows : List (List Bool)} {n : Nat}
theorem goC_tells (hs : Sq rows n) (F : Nat) (hF : n * (n + 1) + n + 2 ≤ F) : ∀ (f i : Nat) (st : List Int), i ≤ n → st.length = n → n - i < f → Vals st → (∀ j : Nat, st[j]? ≠ some 1) → Black rows st → (∀ j : Nat, j < i → st[j]? = some 2) →
    ∃ b, goC rows F f i st = some b ∧ (b = true ↔ Cyc rows) := by
  intro f
  induction f with
  | zero => intro i st _ _ h; omega
  | succ f ih =>
    intro i st hi hst hf hv hng hbk hpre
    simp only [goC]
    have hlen : rows.length = n := hs.1
    by_cases hlt : i < n
    · rw [if_pos (by omega)]
      obtain ⟨x, hx⟩ : ∃ x, st[i]? = some x := ⟨_, List.getElem?_eq_getElem (by omega)⟩
      simp only [hx]
      by_cases h0 : x = 0
      · subst h0
        rw [if_pos rfl]
        have hil : i < st.length := by omega
        have hw : whites (st.set i 1) ≤ n := by
          have h1 := List.count_le_length (a := (0 : Int)) (l := st.set i 1)
          simp only [List.length_set] at h1
          unfold whites; omega
        have hw2 : whites (st.set i 1) * (n + 1) ≤ n * (n + 1) := Nat.mul_le_mul_right _ hw
        obtain ⟨⟨b, s2⟩, hr, _⟩ := goV_some hs F i 0 (st.set i 1) hlt (by omega) (by simpa using hst) (by omega)
        rw [hr]
        obtain ⟨r1, r2⟩ := goV_tells hs F i 0 (st.set i 1) s2 b hlt (by simpa using hst) hr (by rw [set_at hil, if_pos rfl]) (fun j y hj => by
            rw [set_at hil] at hj
            split at hj
            · injection hj with hj; omega
            · exact hv j y hj) (fun g hg => by
            rw [set_at hil] at hg
            by_cases hig : i = g
            · exact .inl hig.symm
            · rw [if_neg hig] at hg; exact absurd hg (hng g)) (fun j hj => by
            rw [set_at hil] at hj
            by_cases hij : i = j
            · rw [if_pos hij] at hj; injection hj with hj; omega
            · rw [if_neg hij] at hj
              refine ⟨fun m he => ?_, (hbk j hj).2⟩
              have hm := (hbk j hj).1 m he
              have him : i ≠ m := fun e => by rw [← e, hx] at hm; injection hm with hm; omega
              rw [set_at hil, if_neg him]; exact hm) (fun m hm => by omega)
        cases b with
        | true => exact ⟨true, rfl, ⟨fun _ => r1 rfl, fun _ => rfl⟩⟩
        | false =>
          obtain ⟨q1, q2, q3, q4, q5⟩ := r2 rfl
          have hl := goV_len rows _ _ _ _ _ hr
          simp only [List.length_set] at hl
          refine ih (i + 1) s2 (by omega) (by omega) (by omega) q2 (fun j hj => ?_) q1 (fun j hj => ?_)
          · obtain ⟨h1, h2⟩ := (q4 j).1 hj
            rw [set_at hil, if_neg (Ne.symm h2)] at h1
            exact hng j h1
          · by_cases hji : j = i
            · subst hji; exact q3
            · exact q5 j (by rw [set_at hil, if_neg (Ne.symm hji)]; exact hpre j (by omega))
      · rw [if_neg h0]
        refine ih (i + 1) st (by omega) hst (by omega) hv hng hbk fun j hj => ?_
        by_cases hji : j = i
        · subst hji
          rcases hv j x hx with h | h | h
          · exact absurd h h0
          · subst h; exact absurd hx (hng j)
          · subst h; exact hx
        · exact hpre j (by omega)
    · rw [if_neg (by omega)]
      refine ⟨false, rfl, (fun h => by cases h), fun ⟨j, hj⟩ => ?_⟩
      have hjn : j < n := by
        cases hj with
        | one h => exact (hs.lt h).1
        | step h _ => exact (hs.lt h).1
      exact absurd hj (hbk j (hpre j (by omega))).2
/-- graph.cyclic: whether a way leads back. -/
theorem goC_cyc (hs : Sq rows n) : ∃ F G b, goC rows F G 0 (List.replicate n 0) = some b ∧ (b = true ↔ Cyc rows) := by
  refine ⟨n * (n + 1) + n + 2, n + 1, goC_tells hs _ (Nat.le_refl _) (n + 1) 0 _ (by omega) (by simp) (by omega) (fun j x h => ?_) (fun j h => ?_) (fun j h => ?_) (fun j h => by omega)⟩
  · simp [List.getElem?_replicate] at h; omega
  · simp [List.getElem?_replicate] at h
  · simp [List.getElem?_replicate] at h
end
theorem matrix_sq (p : S54 → Bool) (fs : List Nat) (run : List (List S68)) : Sq (matrixOf p fs run) (nodesN p run).length := ⟨joinRows_len _ _ _ _, fun r h => joinRows_sq _ _ _ _ r h⟩
theorem ahead_sq (l : List S76) : Sq (aheadOf l) l.length := ⟨joinRows_len _ _ _ _, fun r h => joinRows_sq _ _ _ _ r h⟩
theorem join_edge (l : List S76) (fs : List Nat) (i k : Nat) : EdgeOf (joinRows l fs relF l.length) i k ↔ i < l.length ∧ k < l.length ∧ i ≠ k ∧ ∃ f, f ∈ fs ∧ relF f (rd_T76 l i) (rd_T76 l k) = true := by
  unfold EdgeOf joinRows
  rw [List.getD_eq_getElem?_getD, List.getElem?_map]
  by_cases hi : i < l.length
  · rw [List.getElem?_range hi]
    simp only [Option.map_some, Option.getD_some, rowJ]
    rw [List.getElem?_map]
    by_cases hk : k < l.length
    · rw [List.getElem?_range hk]
      simp only [Option.map_some, Option.some.injEq, hk, decide_true, Bool.true_and, entryJ, Bool.and_eq_true, bne_iff_ne, List.any_eq_true]
      exact ⟨fun ⟨h1, f, h2, h3⟩ => ⟨hi, trivial, h1, f, h2, h3⟩, fun ⟨_, _, h1, f, h2, h3⟩ => ⟨h1, f, h2, h3⟩⟩
    · rw [show (List.range l.length)[k]? = none from List.getElem?_eq_none (by rw [List.length_range]; omega)]
      simp [hk]
  · rw [show (List.range l.length)[i]? = none from List.getElem?_eq_none (by rw [List.length_range]; omega)]
    simp [hi]
/-- A sublist's places in the list. -/
theorem filter_places {α : Type} (p : α → Bool) (l : List α) : ∃ φ : Nat → Nat, (∀ i j, i < j → j < (l.filter p).length → φ i < φ j) ∧ ∀ i (h : i < (l.filter p).length), l[φ i]? = some ((l.filter p)[i]) := by
  induction l with
  | nil => exact ⟨id, fun i j _ h => by simp at h, fun i h => by simp at h⟩
  | cons a t ih =>
    obtain ⟨φ, h1, h2⟩ := ih
    by_cases hp : p a = true
    · have hf : (a :: t).filter p = a :: t.filter p := by simp [hp]
      refine ⟨fun i => match i with | 0 => 0 | i + 1 => φ i + 1, ?_, ?_⟩
      · intro i j hij hj
        rw [hf] at hj
        cases j with
        | zero => omega
        | succ j =>
          cases i with
          | zero => show 0 < φ j + 1; omega
          | succ i =>
            have := h1 i j (by omega) (by simpa using hj)
            show φ i + 1 < φ j + 1
            omega
      · intro i hi
        cases i with
        | zero => simp [hf]
        | succ i =>
          have hi' : i < (t.filter p).length := by rw [hf] at hi; simpa using hi
          have := h2 i hi'
          simp only [List.getElem?_cons_succ, this, Option.some.injEq]
          simp [hf]
    · have hf : (a :: t).filter p = t.filter p := by simp [hp]
      refine ⟨fun i => φ i + 1, ?_, ?_⟩
      · intro i j hij hj
        rw [hf] at hj
        have := h1 i j hij hj
        show φ i + 1 < φ j + 1
        omega
      · intro i hi
        have hi' : i < (t.filter p).length := by rw [hf] at hi; exact hi
        have := h2 i hi'
        simp only [List.getElem?_cons_succ, this, Option.some.injEq]
        simp [hf]
theorem row_filter (p : S54 → Bool) (l : List S68) : rowN p l = (rowN allB l).filter fun x => p x.f0.f1 := by
  unfold rowN
  rw [List.filter_map, List.filter_filter]
  congr 1
  apply List.filter_congr
  intro q _
  simp only [keepN, allB, Function.comp_apply, Bool.and_true]
  rw [Bool.and_comm]
theorem nodes_filter (p : S54 → Bool) (run : List (List S68)) : nodesN p run = (nodesN allB run).filter fun x => p x.f0.f1 := by
  induction run with
  | nil => rfl
  | cons l t ih =>
    simp only [nodesN, List.flatMap_cons, List.filter_append] at *
    rw [row_filter, ih]
theorem rd_at (l : List S76) (i : Nat) (x : S76) (h : l[i]? = some x) : rd_T76 l i = x := by
  unfold rd_T76
  rw [Int.toNat_natCast, List.getD_eq_getElem?_getD, h]; rfl
theorem coherent_of_serial (run : List (List S68)) (h : Cyc (matrixOf allB [50, 52, 53, 54] run)) : Cyc (matrixOf allB [51, 52, 53, 54] run) := by
  obtain ⟨i, hi⟩ := h
  refine ⟨i, hi.mono fun a b he => ?_⟩
  unfold matrixOf at *
  rw [join_edge] at *
  obtain ⟨h1, h2, h3, f, hf, hr⟩ := he
  refine ⟨h1, h2, h3, ?_⟩
  simp only [List.mem_cons, List.not_mem_nil, or_false] at hf
  rcases hf with rfl | hf
  · refine ⟨51, by simp, ?_⟩
    simp only [relF, poAtB, Bool.and_eq_true] at hr
    exact hr.1
  · exact ⟨f, by simp only [List.mem_cons, List.not_mem_nil, or_false]; exact .inr hf, hr⟩
theorem synced_of_serial (run : List (List S68)) (h : Cyc (matrixOf syncsB [51, 52, 53, 54] run)) : Cyc (matrixOf allB [51, 52, 53, 54] run) := by
  obtain ⟨i, hi⟩ := h
  obtain ⟨φ, h1, h2⟩ := filter_places (fun x : S76 => syncsB x.f0.f1) (nodesN allB run)
  rw [← nodes_filter] at h1 h2
  refine ⟨φ i, hi.map φ fun a b he => ?_⟩
  unfold matrixOf at *
  rw [join_edge] at *
  obtain ⟨ha, hb, hne, f, hf, hr⟩ := he
  have e1 := h2 a ha
  have e2 := h2 b hb
  have l1 := (List.getElem?_eq_some_iff.1 e1).1
  have l2 := (List.getElem?_eq_some_iff.1 e2).1
  refine ⟨l1, l2, ?_, f, hf, ?_⟩
  · rcases Nat.lt_or_ge a b with hab | hab
    · have := h1 a b hab hb; omega
    · have := h1 b a (by omega) ha; omega
  · rw [rd_at _ _ _ e1, rd_at _ _ _ e2]
    rwa [rd_at _ _ _ (List.getElem?_eq_getElem ha), rd_at _ _ _ (List.getElem?_eq_getElem hb)] at hr
end Go.Proofs.Ytfeempgoejnfdaa.Ord

/- The reference's closed matrix tells whether there is a cycle: plain law, no program in sight. -/
import Derived.Test.YtfeempgoejnfdaaR5
import Derived.Test.YtfeempgoejnfdaaOH
namespace Go.Proofs.Ytfeempgoejnfdaa.Ord
set_option linter.unusedVariables false
set_option linter.unusedSimpArgs false
theorem at2_put {rows : List (List Bool)} {n : Nat} (h : Sq2 rows n) {i j : Nat} (hi : i < n) (hj : j < n) (v : Bool) (a b : Nat) :
    at2 (rows.set i ((rows.getD i []).set j v)) a b = if a = i ∧ b = j then v else at2 rows a b := by
  have hl : (rows.getD i []).length = n := by
    rw [List.getD_eq_getElem?_getD, List.getElem?_eq_getElem (by rw [h.1]; exact hi)]
    exact h.2 _ (List.getElem_mem _)
  unfold at2
  by_cases ha : a = i
  · subst ha
    have e : (rows.set a ((rows.getD a []).set j v)).getD a [] = (rows.getD a []).set j v := by
      rw [List.getD_eq_getElem?_getD, List.getElem?_set_self (by rw [h.1]; exact hi)]; rfl
    rw [e]
    by_cases hb : b = j
    · subst hb
      rw [List.getD_eq_getElem?_getD, List.getElem?_set_self (by rw [hl]; exact hj)]; simp
    · rw [List.getD_eq_getElem?_getD, List.getElem?_set_ne (Ne.symm hb)]
      simp [hb]
  · rw [List.getD_eq_getElem?_getD (l := rows.set _ _), List.getElem?_set_ne (Ne.symm ha)]
    simp [ha]
theorem at2_fJ {R : List (List Bool)} {n : Nat} (h : Sq2 R n) {e : Nat → Nat → Bool} {i : Nat} (hi : i < n) (a b : Nat) : ∀ k, k ≤ n → at2 (fJ e i R k) a b = if a = i ∧ b < k then e i b else at2 R a b
  | 0, _ => by simp [fJ]
  | k + 1, hk => by
    show at2 (stepF (fJ e i R k) i k (e i k)) a b = _
    unfold stepF
    rw [at2_put (h.fJ hi k) hi (by omega), at2_fJ h hi a b k (by omega)]
    by_cases h1 : a = i
    · subst h1
      by_cases h2 : b = k
      · subst h2; simp
      · by_cases h3 : b < k
        · have : b < k + 1 := by omega
          simp [h2, h3, this]
        · have : ¬ b < k + 1 := by omega
          simp [h2, h3, this]
    · simp [h1]
theorem at2_fI {R : List (List Bool)} {n : Nat} (h : Sq2 R n) {e : Nat → Nat → Bool} (a b : Nat) : ∀ m, m ≤ n → at2 (fI n e R m) a b = if a < m ∧ b < n then e a b else at2 R a b
  | 0, _ => by simp [fI]
  | m + 1, hm => by
    show at2 (fJ e m (fI n e R m) n) a b = _
    rw [at2_fJ (h.fI m (by omega)) (by omega) a b n (Nat.le_refl _), at2_fI h a b m (by omega)]
    by_cases h1 : a = m
    · subst h1
      by_cases h2 : b < n <;> simp [h2]
    · by_cases h3 : a < m
      · have : a < m + 1 := by omega
        simp [h1, h3, this]
      · have : ¬ a < m + 1 := by omega
        simp [h1, h3, this]
theorem at2_zero (n a b : Nat) : at2 (List.replicate n (List.replicate n false)) a b = false := by
  unfold at2
  by_cases ha : a < n
  · rw [List.getD_eq_getElem?_getD, List.getD_eq_getElem?_getD, List.getElem?_replicate, if_pos ha]
    by_cases hb : b < n
    · simp [List.getElem?_replicate, hb]
    · simp [List.getElem?_replicate, hb]
  · rw [List.getD_eq_getElem?_getD, List.getD_eq_getElem?_getD, List.getElem?_replicate, if_neg ha]
    simp
theorem at2_lt {R : List (List Bool)} {n : Nat} (h : Sq2 R n) {a b : Nat} (he : at2 R a b = true) : a < n ∧ b < n := by
  unfold at2 at he
  have ha : a < n := by
    rcases Nat.lt_or_ge a n with h1 | h1
    · exact h1
    · have hn : R[a]? = none := List.getElem?_eq_none (by rw [h.1]; exact h1)
      rw [List.getD_eq_getElem?_getD, List.getD_eq_getElem?_getD, hn] at he
      simp at he
  refine ⟨ha, ?_⟩
  have hl : (R.getD a []).length = n := by
    rw [List.getD_eq_getElem?_getD, List.getElem?_eq_getElem (by rw [h.1]; exact ha)]
    exact h.2 _ (List.getElem_mem _)
  rcases Nat.lt_or_ge b n with h1 | h1
  · exact h1
  · rw [List.getD_eq_getElem?_getD, List.getElem?_eq_none (by rw [hl]; exact h1)] at he
    simp at he
/-- Warshall: what is in stays in; what comes in is a way. -/
theorem step_mono {R : List (List Bool)} {n : Nat} (h : Sq2 R n) {k i j : Nat} (hi : i < n) (hj : j < n) {a b : Nat} (he : at2 R a b = true) : at2 (stepW R k i j) a b = true := by
  unfold stepW
  rw [at2_put h hi hj]
  split
  · rename_i h1; obtain ⟨rfl, rfl⟩ := h1; simp [he]
  · exact he
theorem step_sound {E : Nat → Nat → Prop} {R : List (List Bool)} {n : Nat} (h : Sq2 R n) (hs : ∀ a b, at2 R a b = true → Way E a b) {k i j : Nat} (hi : i < n) (hj : j < n) : ∀ a b, at2 (stepW R k i j) a b = true → Way E a b := by
  intro a b he
  unfold stepW at he
  rw [at2_put h hi hj] at he
  split at he
  · rename_i h1; obtain ⟨rfl, rfl⟩ := h1
    simp only [Bool.or_eq_true, Bool.and_eq_true] at he
    rcases he with he | ⟨h1, h2⟩
    · exact hs _ _ he
    · exact (hs _ _ h1).trans (hs _ _ h2)
  · exact hs _ _ he
theorem jW_mono {R : List (List Bool)} {n : Nat} (h : Sq2 R n) {k i : Nat} (hi : i < n) {a b : Nat} (he : at2 R a b = true) : ∀ j, j ≤ n → at2 (jW k i R j) a b = true
  | 0, _ => he
  | j + 1, hj => step_mono (h.jW hi j) hi (by omega) (jW_mono h hi he j (by omega))
theorem jW_sound {E : Nat → Nat → Prop} {R : List (List Bool)} {n : Nat} (h : Sq2 R n) (hs : ∀ a b, at2 R a b = true → Way E a b) {k i : Nat} (hi : i < n) : ∀ j, j ≤ n → ∀ a b, at2 (jW k i R j) a b = true → Way E a b
  | 0, _ => hs
  | j + 1, hj => step_sound (h.jW hi j) (jW_sound h hs hi j (by omega)) hi (by omega)
theorem jW_full {R : List (List Bool)} {n : Nat} (h : Sq2 R n) {k i : Nat} (hi : i < n) {b : Nat} (h1 : at2 R i k = true) (h2 : at2 R k b = true) : ∀ j, j ≤ n → b < j → at2 (jW k i R j) i b = true
  | 0, _, hb => by omega
  | j + 1, hj, hb => by
    rcases Nat.lt_or_ge b j with h3 | h3
    · exact step_mono (h.jW hi j) hi (by omega) (jW_full h hi h1 h2 j (by omega) h3)
    · obtain rfl : b = j := by omega
      show at2 (stepW (jW k i R b) k i b) i b = true
      unfold stepW
      rw [at2_put (h.jW hi b) hi (by omega)]
      simp [jW_mono h hi h1 b (by omega), jW_mono h hi h2 b (by omega)]
theorem iW_mono {R : List (List Bool)} {n : Nat} (h : Sq2 R n) {k : Nat} {a b : Nat} (he : at2 R a b = true) : ∀ i, i ≤ n → at2 (iW n k R i) a b = true
  | 0, _ => he
  | i + 1, hi => jW_mono (h.iW i (by omega)) (by omega) (iW_mono h he i (by omega)) n (Nat.le_refl _)
theorem iW_sound {E : Nat → Nat → Prop} {R : List (List Bool)} {n : Nat} (h : Sq2 R n) (hs : ∀ a b, at2 R a b = true → Way E a b) {k : Nat} : ∀ i, i ≤ n → ∀ a b, at2 (iW n k R i) a b = true → Way E a b
  | 0, _ => hs
  | i + 1, hi => jW_sound (h.iW i (by omega)) (iW_sound h hs i (by omega)) (by omega) n (Nat.le_refl _)
theorem iW_full {R : List (List Bool)} {n : Nat} (h : Sq2 R n) {k a b : Nat} (h1 : at2 R a k = true) (h2 : at2 R k b = true) : ∀ i, i ≤ n → a < i → at2 (iW n k R i) a b = true
  | 0, _, hb => by omega
  | i + 1, hi, hb => by
    rcases Nat.lt_or_ge a i with h3 | h3
    · exact jW_mono (h.iW i (by omega)) (by omega) (iW_full h h1 h2 i (by omega) h3) n (Nat.le_refl _)
    · obtain rfl : a = i := by omega
      exact jW_full (h.iW a (by omega)) (by omega) (iW_mono h h1 a (by omega)) (iW_mono h h2 a (by omega)) n (Nat.le_refl _) (at2_lt h h2).2
theorem kW_sound {E : Nat → Nat → Prop} {R : List (List Bool)} {n : Nat} (h : Sq2 R n) (hs : ∀ a b, at2 R a b = true → Way E a b) : ∀ k, ∀ a b, at2 (kW n R k) a b = true → Way E a b
  | 0 => hs
  | k + 1 => iW_sound (h.kW k) (kW_sound h hs k) n (Nat.le_refl _)
/-- A way whose inner places lie below k. -/
def PB (E : Nat → Nat → Prop) : Nat → Nat → Nat → Prop
  | 0, i, j => E i j
  | k + 1, i, j => PB E k i j ∨ (PB E k i k ∧ PB E k k j)
theorem PB.in {E : Nat → Nat → Prop} {i j : Nat} (h : E i j) : ∀ k, PB E k i j
  | 0 => h
  | k + 1 => .inl (PB.in h k)
theorem PB.trans {E : Nat → Nat → Prop} : ∀ (k : Nat) {i m j : Nat}, m < k → PB E k i m → PB E k m j → PB E k i j
  | 0, _, _, _, h, _, _ => by omega
  | k + 1, i, m, j, h, h1, h2 => by
    by_cases hm : m = k
    · subst hm
      have a : PB E m i m := h1.elim id And.left
      have b : PB E m m j := h2.elim id And.right
      exact .inr ⟨a, b⟩
    · have hlt : m < k := by omega
      rcases h1 with h1 | ⟨h1, h3⟩
      · rcases h2 with h2 | ⟨h2, h4⟩
        · exact .inl (PB.trans k hlt h1 h2)
        · exact .inr ⟨PB.trans k hlt h1 h2, h4⟩
      · rcases h2 with h2 | ⟨h2, h4⟩
        · exact .inr ⟨h1, PB.trans k hlt h3 h2⟩
        · exact .inr ⟨h1, h4⟩
theorem PB.way {E : Nat → Nat → Prop} {n : Nat} (hE : ∀ a b, E a b → a < n ∧ b < n) {i j : Nat} (h : Way E i j) : PB E n i j := by
  induction h with
  | one he => exact PB.in he n
  | step he _ ih => exact PB.trans n (hE _ _ he).2 (PB.in he n) ih
theorem kW_full {E : Nat → Nat → Prop} {R : List (List Bool)} {n : Nat} (h : Sq2 R n) (hs : ∀ a b, E a b → at2 R a b = true) : ∀ k, k ≤ n → ∀ a b, PB E k a b → at2 (kW n R k) a b = true
  | 0, _, a, b, hp => hs a b hp
  | k + 1, hk, a, b, hp => by
    rcases hp with hp | ⟨h1, h2⟩
    · exact iW_mono (h.kW k) (kW_full h hs k (by omega) a b hp) n (Nat.le_refl _)
    · have e1 := kW_full h hs k (by omega) a k h1
      exact iW_full (h.kW k) e1 (kW_full h hs k (by omega) k b h2) n (Nat.le_refl _) (at2_lt (h.kW k) e1).1
theorem closed_way (l : List S76) (pl : Bool) (i j : Nat) : at2 (closedOf l pl) i j = true ↔ Way (fun a b => a < l.length ∧ b < l.length ∧ edgeB l pl a b = true) i j := by
  have hz := sq2_zero l.length
  have hq : Sq2 (fI l.length (edgeB l pl) (List.replicate l.length (List.replicate l.length false)) l.length) l.length := hz.fI _ (Nat.le_refl _)
  constructor
  · refine kW_sound hq (fun a b he => ?_) _ i j
    obtain ⟨h1, h2⟩ := at2_lt hq he
    rw [at2_fI hz a b _ (Nat.le_refl _), if_pos ⟨h1, h2⟩] at he
    exact .one ⟨h1, h2, he⟩
  · intro h
    refine kW_full hq (fun a b he => ?_) _ (Nat.le_refl _) i j (PB.way (fun a b he => ⟨he.1, he.2.1⟩) h)
    rw [at2_fI hz a b _ (Nat.le_refl _), if_pos ⟨he.1, he.2.1⟩]
    exact he.2.2
theorem way_rel (a b : S76) (pl : Bool) : wayB a b pl = true ↔ ∃ f, f ∈ (if pl then [50, 52, 53, 54] else [51, 52, 53, 54]) ∧ relF f a b = true := by
  have e2 : way2 a b = rfB a b := by unfold way2 rfB; cases readsB b.f0.f1 <;> simp
  have e3 : way3 a b = coB a b := rfl
  have e1 : way1 a b pl = if pl then poAtB a b else poB a b := by
    unfold way1 poAtB poB; cases pl <;> simp
  unfold wayB
  rw [e1, e2, e3]
  cases pl <;> simp [relF]
theorem acyclic_cyc (l : List S76) (pl : Bool) : acyclicB l pl = false ↔ Cyc (joinRows l (if pl then [50, 52, 53, 54] else [51, 52, 53, 54]) relF l.length) := by
  have hE : ∀ a b, (a < l.length ∧ b < l.length ∧ edgeB l pl a b = true) ↔ EdgeOf (joinRows l (if pl then [50, 52, 53, 54] else [51, 52, 53, 54]) relF l.length) a b := by
    intro a b
    rw [join_edge, ← way_rel]
    simp [edgeB]
  unfold acyclicB Cyc
  rw [List.all_eq_false]
  constructor
  · rintro ⟨i, _, h⟩
    simp at h
    exact ⟨i, ((closed_way l pl i i).1 h).mono fun a b he => (hE a b).1 he⟩
  · rintro ⟨i, h⟩
    have h2 := (closed_way l pl i i).2 (h.mono fun a b he => (hE a b).2 he)
    refine ⟨i, ?_, by simp [h2]⟩
    exact List.mem_range.2 (at2_lt (((sq2_zero l.length).fI l.length (Nat.le_refl _)).kW l.length) h2).1
/-- The reference's answer is the opposite of the program's. -/
theorem acyclic_not (p : S54 → Bool) (run : List (List S68)) (pl : Bool) (b : Bool) (h : b = true ↔ Cyc (matrixOf p (if pl then [50, 52, 53, 54] else [51, 52, 53, 54]) run)) : acyclicB (nodesN p run) pl = !b := by
  have h2 := acyclic_cyc (nodesN p run) pl
  unfold matrixOf at h
  rw [← h2] at h
  cases b
  · cases hc : acyclicB (nodesN p run) pl
    · exact absurd (h.2 hc) (by simp)
    · rfl
  · rw [h.1 rfl]; rfl
end Go.Proofs.Ytfeempgoejnfdaa.Ord

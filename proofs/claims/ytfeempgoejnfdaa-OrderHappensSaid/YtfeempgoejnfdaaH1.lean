/- graph.closed's rows are the ways: plain law, no program in sight. -/
import Derived.Test.YtfeempgoejnfdaaR6
namespace Go.Proofs.Ytfeempgoejnfdaa.Ord
set_option linter.unusedVariables false
set_option linter.unusedSimpArgs false
/-- Entry k of a row. -/
def on (m : List Bool) (k : Nat) : Prop := m[k]? = some true
theorem on_set {m : List Bool} {k j : Nat} (hk : k < m.length) : on (m.set k true) j ↔ on m j ∨ j = k := by
  unfold on
  by_cases h : k = j
  · subst h; rw [List.getElem?_set_self hk]; simp
  · rw [List.getElem?_set_ne h]
    constructor
    · exact Or.inl
    · rintro (h1 | h1)
      · exact h1
      · exact absurd h1.symm h
theorem getD_off {m : List Bool} {k : Nat} : m.getD k false = true ↔ on m k := by
  unfold on
  rw [List.getD_eq_getElem?_getD]
  cases m[k]? with
  | none => simp
  | some b => cases b <;> simp
theorem scanL_spec : ∀ (r : List Bool) (k : Nat) (m : List Bool) (q : List Nat), k + r.length ≤ m.length →
    ∃ new, (scanL r k (m, q)).2 = q ++ new ∧ (scanL r k (m, q)).1.length = m.length ∧ (∀ j, on (scanL r k (m, q)).1 j ↔ on m j ∨ ∃ t, on r t ∧ j = k + t) ∧ (∀ x, x ∈ new → ¬ on m x ∧ ∃ t, on r t ∧ x = k + t) ∧
      (∀ x, on (scanL r k (m, q)).1 x → ¬ on m x → x ∈ new) ∧ new.length + m.count true = (scanL r k (m, q)).1.count true
  | [], k, m, q, _ => ⟨[], by simp [scanL], by simp [scanL], fun j => by simp [scanL, on], fun x hx => by simp at hx, fun x h1 h2 => absurd h1 h2, by simp [scanL]⟩
  | is :: r, k, m, q, hk => by
    simp only [List.length_cons] at hk
    have hsplit : ∀ j, (∃ t, on (is :: r) t ∧ j = k + t) ↔ (is = true ∧ j = k) ∨ ∃ t, on r t ∧ j = k + 1 + t := by
      intro j
      constructor
      · rintro ⟨t, h1, h2⟩
        cases t with
        | zero => left; unfold on at h1; simp at h1; exact ⟨h1, by omega⟩
        | succ t => right; exact ⟨t, by unfold on at *; simpa using h1, by omega⟩
      · rintro (⟨h1, h2⟩ | ⟨t, h1, h2⟩)
        · exact ⟨0, by unfold on; simp [h1], by omega⟩
        · exact ⟨t + 1, by unfold on at *; simpa using h1, by omega⟩
    by_cases hc : (is && !(m.getD k false)) = true
    · simp only [Bool.and_eq_true, Bool.not_eq_true'] at hc
      obtain ⟨rfl, hoff⟩ := hc
      have hnon : ¬ on m k := fun h => by rw [← getD_off, hoff] at h; cases h
      have e : scanL (true :: r) k (m, q) = scanL r (k + 1) (m.set k true, q ++ [k]) := by
        show (if true && !(m.getD k false) then _ else _) = _
        rw [hoff]; rfl
      rw [e]
      obtain ⟨new, h1, h2, h3, h4, h5, h6⟩ := scanL_spec r (k + 1) (m.set k true) (q ++ [k]) (by simp; omega)
      refine ⟨k :: new, by rw [h1]; simp, by rw [h2]; simp, fun j => ?_, fun x hx => ?_, fun x hx hn => ?_, ?_⟩
      · rw [h3, on_set (by omega), hsplit]
        constructor
        · rintro ((h | h) | h)
          · exact .inl h
          · exact .inr (.inl ⟨rfl, h⟩)
          · exact .inr (.inr h)
        · rintro (h | ⟨_, h⟩ | h)
          · exact .inl (.inl h)
          · exact .inl (.inr h)
          · exact .inr h
      · rcases List.mem_cons.1 hx with rfl | hx
        · exact ⟨hnon, 0, rfl, by omega⟩
        · obtain ⟨h7, h8⟩ := h4 x hx
          rw [on_set (by omega)] at h7
          exact ⟨fun h => h7 (.inl h), (hsplit x).2 (.inr h8)⟩
      · by_cases hxk : x = k
        · subst hxk; simp
        · refine List.mem_cons_of_mem _ (h5 x hx fun h => ?_)
          rw [on_set (by omega)] at h
          exact h.elim hn hxk
      · have := count_set m k (by omega) hoff
        simp only [List.length_cons]; omega
    · have e : scanL (is :: r) k (m, q) = scanL r (k + 1) (m, q) := by
        show (if is && !(m.getD k false) then _ else _) = _
        rw [if_neg hc]
      rw [e]
      obtain ⟨new, h1, h2, h3, h4, h5, h6⟩ := scanL_spec r (k + 1) m q (by omega)
      have hin : is = true → on m k := fun hi => by
        rw [← getD_off]
        cases hd : m.getD k false
        · exact absurd (by rw [hi, hd]; rfl) hc
        · rfl
      refine ⟨new, h1, h2, fun j => ?_, fun x hx => ?_, h5, h6⟩
      · rw [h3, hsplit]
        constructor
        · rintro (h | h)
          · exact .inl h
          · exact .inr (.inr h)
        · rintro (h | ⟨hi, rfl⟩ | h)
          · exact .inl h
          · exact .inl (hin hi)
          · exact .inr h
      · obtain ⟨h7, h8⟩ := h4 x hx
        exact ⟨h7, (hsplit x).2 (.inr h8)⟩
theorem edge_on {rows : List (List Bool)} {i k : Nat} : EdgeOf rows i k ↔ on (rows.getD i []) k := Iff.rfl
variable {rows : List (List Bool)} {n : Nat}
theorem bfs_tells (hs : Sq rows n) (i : Nat) : ∀ (f : Nat) (m : List Bool) (q : List Nat), m.length = n → (∀ x, x ∈ q → x < n ∧ (x = i ∨ Way (EdgeOf rows) i x)) → (∀ k, on m k → Way (EdgeOf rows) i k) →
    (∀ x, x = i ∨ on m x → x ∈ q ∨ ∀ k, EdgeOf rows x k → on m k) → n - m.count true + q.length < f → ∃ r, bfs rows f (m, q) = some r ∧ r.length = n ∧ ∀ k, on r k ↔ Way (EdgeOf rows) i k
  | 0, _, _, _, _, _, _, hf => by omega
  | f + 1, m, q, hm, hq, hsound, hfull, hf => by
    cases q with
    | nil =>
      refine ⟨m, rfl, hm, fun k => ⟨hsound k, fun hw => ?_⟩⟩
      have hcl : ∀ x, x = i ∨ on m x → ∀ k, EdgeOf rows x k → on m k := fun x hx => (hfull x hx).resolve_left (by simp)
      have h2 : ∀ a b, (a = i ∨ on m a) → EdgeOf rows a b → (b = i ∨ on m b) := fun a b ha he => .inr (hcl a ha b he)
      rcases hw.last with he | ⟨c, hc, he⟩
      · exact hcl i (.inl rfl) k he
      · exact hcl c (hc.closed (S := fun x => x = i ∨ on m x) h2 (.inl rfl)) k he
    | cons x q =>
      obtain ⟨hx, hxw⟩ := hq x (by simp)
      have hrl := hs.row_len hx
      obtain ⟨new, h1, h2, h3, h4, h5, h6⟩ := scanL_spec (rows.getD x []) 0 m (x :: q) (by omega)
      show ∃ r, bfs rows f ((scanL (rows.getD x []) 0 (m, x :: q)).1, (scanL (rows.getD x []) 0 (m, x :: q)).2.drop 1) = some r ∧ _
      have hnew : ∀ k, (∃ t, on (rows.getD x []) t ∧ k = 0 + t) ↔ EdgeOf rows x k := fun k => by
        constructor
        · rintro ⟨t, ht, rfl⟩; rw [edge_on, Nat.zero_add]; exact ht
        · intro h; exact ⟨k, h, by omega⟩
      have hreach : ∀ k, EdgeOf rows x k → Way (EdgeOf rows) i k := fun k he => by
        rcases hxw with rfl | hw
        · exact .one he
        · exact hw.trans (.one he)
      have hcnt : ∀ l : List Bool, l.count true ≤ l.length := fun l => List.count_le_length
      have hc1 := hcnt (scanL (rows.getD x []) 0 (m, x :: q)).1
      rw [h1]
      generalize scanL (rows.getD x []) 0 (m, x :: q) = s at *
      refine bfs_tells hs i f s.1 ((x :: q ++ new).drop 1) (by omega) (fun y hy => ?_) (fun k hk => ?_) (fun y hy => ?_) ?_
      · simp only [List.cons_append, List.drop_succ_cons, List.drop_zero] at hy
        rcases List.mem_append.1 hy with hy | hy
        · exact hq y (by simp [hy])
        · have he := (hnew y).1 (h4 y hy).2
          exact ⟨(hs.lt he).2, .inr (hreach y he)⟩
      · rcases (h3 k).1 hk with h | h
        · exact hsound k h
        · exact hreach k ((hnew k).1 h)
      · have hup : ∀ k, on m k → on s.1 k := fun k h => (h3 k).2 (.inl h)
        by_cases hyx : y = x
        · subst hyx
          exact .inr fun k he => (h3 k).2 (.inr ((hnew k).2 he))
        · simp only [List.cons_append, List.drop_succ_cons, List.drop_zero, List.mem_append]
          by_cases hym : y = i ∨ on m y
          · rcases hfull y hym with h | h
            · rcases List.mem_cons.1 h with h | h
              · exact absurd h hyx
              · exact .inl (.inl h)
            · exact .inr fun k he => hup k (h k he)
          · rcases hy with rfl | hy
            · exact absurd (.inl rfl) hym
            · exact .inl (.inr (h5 y hy fun h => hym (.inr h)))
      · simp only [List.cons_append, List.drop_succ_cons, List.drop_zero, List.length_append]
        simp only [List.length_cons] at hf
        omega
theorem rowC_ways (hs : Sq rows n) {i : Nat} (hi : i < n) : ∃ r, rowC rows (n + 2) i = some r ∧ r.length = n ∧ ∀ k, on r k ↔ Way (EdgeOf rows) i k := by
  unfold rowC
  have hz : (List.replicate rows.length false).count true = 0 := by rw [List.count_replicate]; rfl
  refine bfs_tells hs i (n + 2) _ _ (by simp [hs.1]) (fun x hx => ?_) (fun k hk => ?_) (fun x hx => ?_) (by rw [hz]; simp)
  · simp at hx; subst hx; exact ⟨hi, .inl rfl⟩
  · unfold on at hk; rw [List.getElem?_replicate] at hk; split at hk <;> simp at hk
  · rcases hx with rfl | hx
    · exact .inl (by simp)
    · unfold on at hx; rw [List.getElem?_replicate] at hx; split at hx <;> simp at hx
/-- All rows at once: the list of them. -/
theorem rows_ways (hs : Sq rows n) : ∃ out : List (List Bool), out.length = n ∧ (∀ (i : Nat) (r : List Bool), out[i]? = some r → rowC rows (n + 2) i = some r) ∧ Sq2 out n ∧ ∀ i k, at2 out i k = true ↔ Way (EdgeOf rows) i k := by
  have hn : ∀ i k, Way (EdgeOf rows) i k → i < n := fun i k hw => by
    cases hw with
    | one he => exact (hs.lt he).1
    | step he _ => exact (hs.lt he).1
  refine ⟨(List.range n).map fun i => (rowC rows (n + 2) i).getD [], by simp, fun i r h => ?_, ⟨by simp, fun r hr => ?_⟩, fun i k => ?_⟩
  · simp only [List.getElem?_map] at h
    by_cases hi : i < n
    · rw [List.getElem?_range hi] at h
      obtain ⟨r', h1, _⟩ := rowC_ways hs hi
      simp [h1] at h; rw [h1, h]
    · rw [List.getElem?_eq_none (by simp; omega)] at h; simp at h
  · simp only [List.mem_map, List.mem_range] at hr
    obtain ⟨i, hi, rfl⟩ := hr
    obtain ⟨r', h1, h2, _⟩ := rowC_ways hs hi
    rw [h1]; exact h2
  · by_cases hi : i < n
    · obtain ⟨r', h1, h2, h3⟩ := rowC_ways hs hi
      rw [← h3 k, ← getD_off]
      unfold at2
      rw [List.getD_eq_getElem?_getD (l := List.map _ _), List.getElem?_map, List.getElem?_range hi]
      simp [h1]
    · constructor
      · intro h
        unfold at2 at h
        rw [List.getD_eq_getElem?_getD (l := List.map _ _), List.getElem?_map, List.getElem?_eq_none (by simp; omega)] at h
        simp at h
      · intro h; exact absurd (hn i k h) hi
end Go.Proofs.Ytfeempgoejnfdaa.Ord

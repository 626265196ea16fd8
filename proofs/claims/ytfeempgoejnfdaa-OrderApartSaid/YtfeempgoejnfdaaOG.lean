/- Plain facts on graphs: the depth first search answers whether a way leads back, the breadth first search marks what ways lead to. -/
import Derived.Test.YtfeempgoejnfdaaO8
namespace Go.Proofs.Ytfeempgoejnfdaa.Ord
set_option linter.unusedVariables false
set_option linter.unusedSimpArgs false
/-- A way of one step or more. -/
inductive Way (E : Nat → Nat → Prop) : Nat → Nat → Prop
  | one {a b : Nat} : E a b → Way E a b
  | step {a b c : Nat} : E a b → Way E b c → Way E a c
theorem Way.trans {E : Nat → Nat → Prop} {a b c : Nat} (h : Way E a b) (h2 : Way E b c) : Way E a c := by
  induction h with
  | one h => exact .step h h2
  | step h _ ih => exact .step h (ih h2)
theorem Way.mono {E E' : Nat → Nat → Prop} (hm : ∀ a b, E a b → E' a b) {a b : Nat} (h : Way E a b) : Way E' a b := by
  induction h with
  | one h => exact .one (hm _ _ h)
  | step h _ ih => exact .step (hm _ _ h) ih
theorem Way.map {E E' : Nat → Nat → Prop} (f : Nat → Nat) (hm : ∀ a b, E a b → E' (f a) (f b)) {a b : Nat} (h : Way E a b) : Way E' (f a) (f b) := by
  induction h with
  | one h => exact .one (hm _ _ h)
  | step h _ ih => exact .step (hm _ _ h) ih
/-- What is closed under steps is closed under ways. -/
theorem Way.closed {E : Nat → Nat → Prop} {S : Nat → Prop} (hS : ∀ a b, S a → E a b → S b) {a b : Nat} (h : Way E a b) (ha : S a) : S b := by
  induction h with
  | one h => exact hS _ _ ha h
  | step h _ ih => exact ih (hS _ _ ha h)
/-- The last step of a way. -/
theorem Way.last {E : Nat → Nat → Prop} {a b : Nat} (h : Way E a b) : E a b ∨ ∃ c, Way E a c ∧ E c b := by
  induction h with
  | one h => exact .inl h
  | step h _ ih =>
    rcases ih with h2 | ⟨c, h2, h3⟩
    · exact .inr ⟨_, .one h, h2⟩
    · exact .inr ⟨c, .step h h2, h3⟩
def EdgeOf (rows : List (List Bool)) (i k : Nat) : Prop := (rows.getD i [])[k]? = some true
def Cyc (rows : List (List Bool)) : Prop := ∃ i, Way (EdgeOf rows) i i
section
variable {rows : List (List Bool)} {n : Nat}
/-- n rows of n entries. -/
def Sq (rows : List (List Bool)) (n : Nat) : Prop := rows.length = n ∧ ∀ r, r ∈ rows → r.length = n
theorem Sq.lt (h : Sq rows n) {i k : Nat} (he : EdgeOf rows i k) : i < n ∧ k < n := by
  unfold EdgeOf at he
  rw [List.getD_eq_getElem?_getD] at he
  cases hr : rows[i]? with
  | none => rw [hr] at he; simp at he
  | some r =>
    rw [hr] at he
    have h1 := (List.getElem?_eq_some_iff.1 hr).1
    have h2 := (List.getElem?_eq_some_iff.1 he).1
    have h3 := h.2 r (List.mem_of_getElem? hr)
    simp at h2
    have := h.1
    omega
theorem Sq.entry (h : Sq rows n) {i k : Nat} (hi : i < n) (hk : k < n) : ∃ b, (rows.getD i [])[k]? = some b := by
  have h1 := h.1
  rw [List.getD_eq_getElem?_getD, List.getElem?_eq_getElem (show i < rows.length by omega)]
  have h3 := h.2 _ (List.getElem_mem (show i < rows.length by omega))
  exact ⟨_, List.getElem?_eq_getElem (show k < (rows[i]).length by omega)⟩
theorem Sq.row_len (h : Sq rows n) {i : Nat} (hi : i < n) : (rows.getD i []).length = n := by
  have h1 := h.1
  rw [List.getD_eq_getElem?_getD, List.getElem?_eq_getElem (show i < rows.length by omega)]
  exact h.2 _ (List.getElem_mem (show i < rows.length by omega))
def whites (st : List Int) : Nat := st.count 0
theorem whites_set (st : List Int) : ∀ (k : Nat) (x : Int), st[k]? = some 0 → x ≠ 0 → whites (st.set k x) + 1 = whites st := by
  induction st with
  | nil => intro k x h; simp at h
  | cons a t ih =>
    intro k x h hx
    cases k with
    | zero => simp at h; subst h; simp [whites, hx]
    | succ k =>
      simp at h
      have := ih k x h hx
      simp only [whites, List.set_cons_succ, List.count_cons] at *
      omega
theorem whites_set_le (st : List Int) : ∀ (k : Nat) (x : Int), x ≠ 0 → whites (st.set k x) ≤ whites st := by
  induction st with
  | nil => intro k x h; simp
  | cons a t ih =>
    intro k x hx
    cases k with
    | zero => simp [whites, List.count_cons, hx]
    | succ k =>
      have := ih k x hx
      simp only [whites, List.set_cons_succ, List.count_cons] at *
      omega
theorem goV_some (hs : Sq rows n) : ∀ (f i k : Nat) (st : List Int), i < n → k ≤ n → st.length = n → whites st * (n + 1) + (n - k) + 1 ≤ f → ∃ r, goV rows f i k st = some r ∧ whites r.2 ≤ whites st := by
  intro f
  induction f with
  | zero => intro i k st _ _ _ h; omega
  | succ f ih =>
    intro i k st hi hk hst hf
    simp only [goV]
    by_cases hkn : k < n
    · obtain ⟨b, hb⟩ := hs.entry hi hkn
      rw [hb]
      cases b with
      | false => exact ih i (k + 1) st hi (by omega) hst (by omega)
      | true =>
        obtain ⟨x, hx⟩ : ∃ x, st[k]? = some x := ⟨_, List.getElem?_eq_getElem (by omega)⟩
        simp only [hx]
        by_cases h1 : x = 1
        · rw [if_pos h1]; exact ⟨_, rfl, Nat.le_refl _⟩
        · rw [if_neg h1]
          by_cases h0 : x = 0
          · subst h0
            rw [if_pos rfl]
            have hw := whites_set st k 1 hx (by decide)
            obtain ⟨⟨b2, s2⟩, hr, hle⟩ := ih k 0 (st.set k 1) hkn (by omega) (by simpa using hst) (by
              have : whites st * (n + 1) = whites (st.set k 1) * (n + 1) + (n + 1) := by rw [← hw, Nat.add_mul, Nat.one_mul]
              omega)
            rw [hr]
            simp only at hle
            cases b2 with
            | true => exact ⟨_, rfl, by simp; omega⟩
            | false =>
              have hl := goV_len rows _ _ _ _ _ hr
              simp only [List.length_set] at hl
              obtain ⟨r, hr2, hle2⟩ := ih i (k + 1) s2 hi (by omega) (by omega) (by
                have h2 : whites s2 * (n + 1) ≤ whites st * (n + 1) := Nat.mul_le_mul_right _ (by omega)
                omega)
              exact ⟨r, hr2, by omega⟩
          · rw [if_neg h0]
            exact ih i (k + 1) st hi (by omega) hst (by omega)
    · have hkn' : k = n := by omega
      have : (rows.getD i [])[k]? = none := List.getElem?_eq_none (by rw [hs.row_len hi]; omega)
      rw [this]
      exact ⟨_, rfl, whites_set_le _ _ _ (by decide)⟩
/-- Reached in no step or more. -/
def Reach (E : Nat → Nat → Prop) (a b : Nat) : Prop := a = b ∨ Way E a b
theorem Reach.step {E : Nat → Nat → Prop} {a b c : Nat} (h : Reach E a b) (h2 : E b c) : Way E a c := by
  rcases h with rfl | h
  · exact .one h2
  · exact h.trans (.one h2)
/-- Black nodes lead to black ones, and no way leads back to one. -/
def Black (rows : List (List Bool)) (st : List Int) : Prop := ∀ j : Nat, st[j]? = some 2 → (∀ m, EdgeOf rows j m → st[m]? = some 2) ∧ ¬ Way (EdgeOf rows) j j
def Vals (st : List Int) : Prop := ∀ (j : Nat) (x : Int), st[j]? = some x → x = 0 ∨ x = 1 ∨ x = 2
theorem set_at {st : List Int} {i j : Nat} {x : Int} (hi : i < st.length) : (st.set i x)[j]? = if i = j then some x else st[j]? := by
  by_cases h : i = j
  · subst h; rw [List.getElem?_set_self hi, if_pos rfl]
  · rw [List.getElem?_set_ne h, if_neg h]
/-- What the search from the k-th entry of row i on tells, i being gray. -/
theorem goV_tells (hs : Sq rows n) : ∀ (f i k : Nat) (st st' : List Int) (b : Bool), i < n → st.length = n → goV rows f i k st = some (b, st') → st[i]? = some 1 → Vals st → (∀ g : Nat, st[g]? = some 1 → Reach (EdgeOf rows) g i) →
    Black rows st → (∀ m, m < k → EdgeOf rows i m → st[m]? = some 2) →
    (b = true → Cyc rows) ∧ (b = false → Black rows st' ∧ Vals st' ∧ st'[i]? = some 2 ∧ (∀ j : Nat, st'[j]? = some 1 ↔ st[j]? = some 1 ∧ j ≠ i) ∧ ∀ j : Nat, st[j]? = some 2 → st'[j]? = some 2) := by
  intro f
  induction f with
  | zero => intro i k st st' b _ _ h; simp [goV] at h
  | succ f ih =>
    intro i k st st' b hi hst h hgi hv hg hbk hdone
    simp only [goV] at h
    split at h
    · rename_i hnone
      injection h with h; injection h with hb hs'
      subst hb; subst hs'
      have hkn : n ≤ k := by
        have := List.getElem?_eq_none_iff.1 hnone
        rwa [hs.row_len hi] at this
      have hil : i < st.length := by omega
      refine ⟨(fun h => by cases h), fun _ => ?_⟩
      have hsucc : ∀ m, EdgeOf rows i m → st[m]? = some 2 := fun m he => hdone m (by have := (hs.lt he).2; omega) he
      have hne : ∀ m, st[m]? = some 2 → m ≠ i := fun m hm he => by rw [he, hgi] at hm; injection hm with hm; omega
      refine ⟨fun j hj => ?_, fun j x hj => ?_, by rw [set_at hil, if_pos rfl], fun j => ?_, fun j hj => by rw [set_at hil, if_neg (Ne.symm (hne j hj))]; exact hj⟩
      · rw [set_at hil] at hj
        by_cases hij : i = j
        · subst hij
          refine ⟨fun m he => ?_, fun hw => ?_⟩
          · have hm := hsucc m he
            rw [set_at hil, if_neg (Ne.symm (hne m hm))]; exact hm
          · have hcl : ∀ a b, st[a]? = some 2 → EdgeOf rows a b → st[b]? = some 2 := fun a b ha hab => (hbk a ha).1 b hab
            have h2 : st[i]? = some 2 := by
              cases hw with
              | one he => exact hsucc _ he
              | step he hw2 => exact hw2.closed (S := fun a => st[a]? = some 2) hcl (hsucc _ he)
            exact hne _ h2 rfl
        · rw [if_neg hij] at hj
          refine ⟨fun m he => ?_, (hbk j hj).2⟩
          have hm := (hbk j hj).1 m he
          rw [set_at hil, if_neg (Ne.symm (hne m hm))]; exact hm
      · rw [set_at hil] at hj
        split at hj
        · injection hj with hj; omega
        · exact hv j x hj
      · rw [set_at hil]
        by_cases hij : i = j
        · subst hij; simp
        · rw [if_neg hij]; constructor
          · exact fun h => ⟨h, Ne.symm hij⟩
          · exact fun h => h.1
    · rename_i hfalse
      refine ih i (k + 1) st st' b hi hst h hgi hv hg hbk fun m hm he => ?_
      by_cases hmk : m = k
      · subst hmk
        unfold EdgeOf at he
        rw [hfalse] at he; injection he with he; cases he
      · exact hdone m (by omega) he
    · rename_i htrue
      have hedge : EdgeOf rows i k := htrue
      have hkn := (hs.lt hedge).2
      split at h
      · cases h
      · rename_i x hx
        split at h
        · rename_i h1
          subst h1
          injection h with h; injection h with hb hs'
          subst hb
          refine ⟨fun _ => ⟨k, (hg k hx).step hedge⟩, (fun h => by cases h)⟩
        · rename_i h1
          split at h
          · rename_i h0
            subst h0
            have hkl : k < st.length := by omega
            have hki : i ≠ k := fun he => by rw [← he, hgi] at hx; injection hx with hx; omega
            have hpre : ∀ (b2 : Bool) (s2 : List Int), goV rows f k 0 (st.set k 1) = some (b2, s2) → (b2 = true → Cyc rows) ∧ (b2 = false → Black rows s2 ∧ Vals s2 ∧ s2[k]? = some 2 ∧ (∀ j : Nat, s2[j]? = some 1 ↔ (st.set k 1)[j]? = some 1 ∧ j ≠ k) ∧ ∀ j : Nat, (st.set k 1)[j]? = some 2 → s2[j]? = some 2) := fun b2 s2 hr => by
              refine ih k 0 (st.set k 1) s2 b2 hkn (by simpa using hst) hr (by rw [set_at hkl, if_pos rfl]) (fun j y hj => ?_) (fun g hgr => ?_) (fun j hj => ?_) (fun m hm => by omega)
              · rw [set_at hkl] at hj
                split at hj
                · injection hj with hj; omega
                · exact hv j y hj
              · rw [set_at hkl] at hgr
                by_cases hkg : k = g
                · exact .inl hkg.symm
                · rw [if_neg hkg] at hgr
                  exact .inr ((hg g hgr).step hedge)
              · rw [set_at hkl] at hj
                by_cases hkj : k = j
                · rw [if_pos hkj] at hj; injection hj with hj; omega
                · rw [if_neg hkj] at hj
                  refine ⟨fun m he => ?_, (hbk j hj).2⟩
                  have hm := (hbk j hj).1 m he
                  have hkm : k ≠ m := fun e => by rw [← e, hx] at hm; injection hm with hm; omega
                  rw [set_at hkl, if_neg hkm]; exact hm
            split at h
            · cases h
            · rename_i s2 hr
              injection h with h; injection h with hb hs'
              subst hb
              exact ⟨fun _ => (hpre _ _ hr).1 rfl, (fun h => by cases h)⟩
            · rename_i s2 hr
              obtain ⟨hbk2, hv2, hk2, hg2, hb2⟩ := (hpre _ _ hr).2 rfl
              have hl := goV_len rows _ _ _ _ _ hr
              simp only [List.length_set] at hl
              have hgray : ∀ j : Nat, s2[j]? = some 1 ↔ st[j]? = some 1 := fun j => by
                rw [hg2 j, set_at hkl]
                by_cases hkj : k = j
                · subst hkj; rw [hx]; simp
                · rw [if_neg hkj]; exact ⟨fun h => h.1, fun h => ⟨h, Ne.symm hkj⟩⟩
              have hblk : ∀ j : Nat, st[j]? = some 2 → s2[j]? = some 2 := fun j hj => by
                refine hb2 j ?_
                have hkj : k ≠ j := fun e => by rw [← e, hx] at hj; injection hj with hj; omega
                rw [set_at hkl, if_neg hkj]; exact hj
              obtain ⟨r1, r2⟩ := ih i (k + 1) s2 st' b hi (by omega) h ((hgray i).2 hgi) hv2 (fun g hgr => hg g ((hgray g).1 hgr)) hbk2 (fun m hm he => by
                by_cases hmk : m = k
                · subst hmk; exact hk2
                · exact hblk m (hdone m (by omega) he))
              refine ⟨r1, fun hb => ?_⟩
              obtain ⟨q1, q2, q3, q4, q5⟩ := r2 hb
              exact ⟨q1, q2, q3, fun j => by rw [q4 j, hgray j], fun j hj => q5 j (hblk j hj)⟩
          · rename_i h0
            have hx2 : x = 2 := by rcases hv k x hx with h | h | h <;> omega
            subst hx2
            refine ih i (k + 1) st st' b hi hst h hgi hv hg hbk fun m hm he => ?_
            by_cases hmk : m = k
            · subst hmk; exact hx
            · exact hdone m (by omega) he
end
end Go.Proofs.Ytfeempgoejnfdaa.Ord

/- The plain law of OrderApart: the walk over the sorted row of lock events answers as the reference's, of events with Ids of their own. -/
import Derived.Test.YtfeempgoejnfdaaO11
namespace Go.Proofs.Ytfeempgoejnfdaa.Ord
open Go.RowKit Go.Proofs.YtfeempgoejnfdaaW.PrintWords Go.Proofs.YtfeempgoejnfdaaW.PrintLast Go.Proofs.YtfeempgoejnfdaaW.PrintMore
set_option linter.unusedVariables false
set_option linter.unusedSimpArgs false
def atN (x : S76) : Int := x.f0.f1.f1
def idN (x : S76) : Int := x.f0.f3
def badA (was : Option S76) (n : S76) : Bool :=
  match was with
  | none => n.f0.f1.f0 == 6
  | some w => (w.f0.f0 != n.f0.f0) && ((w.f0.f1.f2 != 0) || (n.f0.f1.f0 == 6))
def lastAt (pre : List S76) (a : Int) : Option S76 := pre.reverse.find? (fun o => atN o == a)
def apartO (L : List S76) : Bool := (List.range L.length).all fun i => !badA (lastAt (L.take i) (atN (rd_T76 L i))) (rd_T76 L i)
def newerP (l : List S76) (prev : Option Nat) (k : Nat) : Bool :=
  match prev with
  | none => true
  | some p => decide (idN (rd_T76 l p) < idN (rd_T76 l k))
def stepP (l : List S76) (n : S76) (prev : Option Nat) (k : Nat) : Option Nat :=
  bif (atN (rd_T76 l k) == atN n) && decide (idN (rd_T76 l k) < idN n) && newerP l prev k then some k else prev
def prevP (l : List S76) (n : S76) : Nat → Option Nat
  | 0 => none
  | k + 1 => stepP l n (prevP l n k) k
def apartR (l : List S76) : Bool := (List.range l.length).all fun i => !badA ((prevP l (rd_T76 l i) l.length).map fun k => rd_T76 l k) (rd_T76 l i)
/-- w is the last one at n's place ahead of n. -/
def IsPrev (S : S76 → Prop) (n : S76) : Option S76 → Prop
  | none => ∀ o, S o → atN o = atN n → ¬ idN o < idN n
  | some w => S w ∧ atN w = atN n ∧ idN w < idN n ∧ ∀ o, S o → atN o = atN n → idN o < idN n → idN o ≤ idN w
theorem IsPrev.one {S : S76 → Prop} (hS : ∀ x y, S x → S y → idN x = idN y → x = y) {n : S76} {a b : Option S76} (ha : IsPrev S n a) (hb : IsPrev S n b) : a = b := by
  cases a with
  | none =>
    cases b with
    | none => rfl
    | some b => exact absurd hb.2.2.1 (ha b hb.1 hb.2.1)
  | some a =>
    cases b with
    | none => exact absurd ha.2.2.1 (hb a ha.1 ha.2.1)
    | some b =>
      have h1 := ha.2.2.2 b hb.1 hb.2.1 hb.2.2.1
      have h2 := hb.2.2.2 a ha.1 ha.2.1 ha.2.2.1
      rw [hS a b ha.1 hb.1 (by omega)]
theorem rd_get {l : List S76} {k : Nat} (h : k < l.length) : rd_T76 l k = l[k] := by
  unfold rd_T76; rw [Int.toNat_natCast, List.getD_eq_getElem?_getD, List.getElem?_eq_getElem h]; rfl
theorem prevP_is (l : List S76) (n : S76) : ∀ k, k ≤ l.length → (∀ p, prevP l n k = some p → p < k) ∧ IsPrev (fun o => o ∈ l.take k) n ((prevP l n k).map fun k => rd_T76 l k) := by
  intro k
  induction k with
  | zero => intro _; exact ⟨fun p h => (by cases h), fun o h => by simp at h⟩
  | succ k ih =>
    intro hk
    obtain ⟨h1, h2⟩ := ih (by omega)
    have hkl : k < l.length := by omega
    have hm : ∀ o, o ∈ l.take (k + 1) ↔ o ∈ l.take k ∨ o = rd_T76 l k := by
      intro o
      rw [List.take_succ_eq_append_getElem hkl, List.mem_append, List.mem_singleton, rd_get hkl]
    rw [prevP]
    unfold stepP
    cases hc : ((atN (rd_T76 l k) == atN n) && decide (idN (rd_T76 l k) < idN n) && newerP l (prevP l n k) k) with
    | true =>
      rw [cond_true]
      simp only [Bool.and_eq_true, beq_iff_eq, decide_eq_true_eq] at hc
      obtain ⟨⟨c1, c2⟩, c3⟩ := hc
      refine ⟨fun p h => by injection h with h; omega, (hm _).2 (.inr rfl), c1, c2, fun o ho oa oi => ?_⟩
      rcases (hm o).1 ho with ho | rfl
      · cases hp : prevP l n k with
        | none => rw [hp] at h2; exact absurd oi (h2 o ho oa)
        | some p =>
          rw [hp] at h2 c3
          simp only [newerP, decide_eq_true_eq] at c3
          exact Int.le_trans (h2.2.2.2 o ho oa oi) (Int.le_of_lt c3)
      · exact Int.le_refl _
    | false =>
      rw [cond_false]
      refine ⟨fun p h => by have := h1 p h; omega, ?_⟩
      have hc : atN (rd_T76 l k) = atN n → idN (rd_T76 l k) < idN n → ¬ newerP l (prevP l n k) k = true := by
        intro a b c
        rw [c] at hc
        simp [a, b] at hc
      cases hp : prevP l n k with
      | none =>
        rw [hp] at h2 hc
        intro o ho oa oi
        rcases (hm o).1 ho with ho | rfl
        · exact h2 o ho oa oi
        · exact hc oa oi rfl
      | some p =>
        rw [hp] at h2 hc
        refine ⟨(hm _).2 (.inl h2.1), h2.2.1, h2.2.2.1, fun o ho oa oi => ?_⟩
        rcases (hm o).1 ho with ho | rfl
        · exact h2.2.2.2 o ho oa oi
        · have := hc oa oi
          simp only [newerP, decide_eq_true_eq] at this
          exact Int.not_lt.1 this
theorem lastAt_is {L : List S76} (hs : L.Pairwise (fun x y => idN x < idN y)) (i : Nat) (hi : i < L.length) : IsPrev (fun o => o ∈ L) L[i] (lastAt (L.take i) (atN L[i])) := by
  rw [List.pairwise_iff_getElem] at hs
  have hlow : ∀ o, o ∈ L → idN o < idN L[i] → ∃ j, ∃ h : j < L.length, j < i ∧ L[j] = o := by
    intro o ho hlt
    obtain ⟨j, hj, rfl⟩ := List.mem_iff_getElem.1 ho
    refine ⟨j, hj, ?_, rfl⟩
    rcases Nat.lt_trichotomy j i with h | h | h
    · exact h
    · subst h; omega
    · have := hs i j hi hj h; omega
  unfold lastAt
  cases hf : (L.take i).reverse.find? (fun o => atN o == atN L[i]) with
  | none =>
    rw [List.find?_eq_none] at hf
    intro o ho oa oi
    obtain ⟨j, hj, hji, rfl⟩ := hlow o ho oi
    have hm : L[j] ∈ (L.take i).reverse := by
      rw [List.mem_reverse, List.mem_take_iff_getElem]
      exact ⟨j, by omega, rfl⟩
    exact hf _ hm (by simp [oa])
  | some w =>
    rw [List.find?_eq_some_iff_append] at hf
    obtain ⟨hw, ps, qs, hab, has⟩ := hf
    have hw' : atN w = atN L[i] := by simpa using hw
    have hr : L.take i = qs.reverse ++ w :: ps.reverse := by
      have := congrArg List.reverse hab
      simpa using this
    have hlen : qs.length < i := by
      have := congrArg List.length hr
      simp at this; omega
    have hwi : L[qs.length]'(by omega) = w := by
      have h1 : (L.take i)[qs.length]? = some w := by rw [hr]; simp
      rw [List.getElem?_take, if_pos hlen, List.getElem?_eq_getElem (by omega)] at h1
      injection h1
    refine ⟨by rw [← hwi]; exact List.getElem_mem _, hw', by rw [← hwi]; exact hs _ _ (by omega) hi hlen, fun o ho oa oi => ?_⟩
    obtain ⟨j, hj, hji, rfl⟩ := hlow o ho oi
    rcases Nat.lt_trichotomy j qs.length with h | h | h
    · have := hs j qs.length hj (by omega) h
      rw [hwi] at this; omega
    · subst h; rw [hwi]; exact Int.le_refl _
    · have hm : L[j] ∈ ps := by
        have h1 : (L.take i)[j]? = some L[j] := by rw [List.getElem?_take, if_pos hji, List.getElem?_eq_getElem hj]
        rw [hr, List.getElem?_append_right (by simp; omega)] at h1
        obtain ⟨m, hm⟩ : ∃ m, j = qs.length + 1 + m := ⟨j - qs.length - 1, by omega⟩
        rw [show j - qs.reverse.length = m + 1 by simp; omega, List.getElem?_cons_succ] at h1
        exact List.mem_reverse.1 (List.mem_of_getElem? h1)
      have := has _ hm
      simp [oa] at this
theorem apart_same {l L : List S76} (hp : L.Perm l) (hs : L.Pairwise (fun x y => idN x < idN y)) : apartO L = apartR l := by
  have hone : ∀ x y, x ∈ l → y ∈ l → idN x = idN y → x = y := by
    intro x y hx hy hxy
    obtain ⟨i, hi, rfl⟩ := List.mem_iff_getElem.1 (hp.mem_iff.2 hx)
    obtain ⟨j, hj, rfl⟩ := List.mem_iff_getElem.1 (hp.mem_iff.2 hy)
    have h := List.pairwise_iff_getElem.1 hs
    rcases Nat.lt_trichotomy i j with h1 | h1 | h1
    · have := h i j hi hj h1; omega
    · subst h1; rfl
    · have := h j i hj hi h1; omega
  have hO : ∀ i (hi : i < L.length), IsPrev (fun o => o ∈ l) L[i] (lastAt (L.take i) (atN L[i])) := by
    intro i hi
    have h := lastAt_is hs i hi
    have e : (fun o => o ∈ L) = (fun o => o ∈ l) := funext fun o => propext hp.mem_iff
    rwa [e] at h
  have hR : ∀ n, IsPrev (fun o => o ∈ l) n ((prevP l n l.length).map fun k => rd_T76 l k) := by
    intro n
    have h := (prevP_is l n l.length (Nat.le_refl _)).2
    rwa [List.take_length] at h
  rw [Bool.eq_iff_iff, apartO, apartR]
  simp only [List.all_eq_true, List.mem_range]
  constructor
  · intro h i hi
    rw [rd_get hi]
    obtain ⟨j, hj, he⟩ := List.mem_iff_getElem.1 (hp.mem_iff.2 (List.getElem_mem hi))
    have h1 := h j hj
    rw [rd_get hj, IsPrev.one hone (hO j hj) (hR _), he] at h1
    exact h1
  · intro h i hi
    rw [rd_get hi]
    obtain ⟨j, hj, he⟩ := List.mem_iff_getElem.1 (hp.mem_iff.1 (List.getElem_mem hi))
    have h1 := h j hj
    rw [rd_get hj, he] at h1
    rw [IsPrev.one hone (hO i hi) (hR _)]
    exact h1
end Go.Proofs.Ytfeempgoejnfdaa.Ord

/- The plain law of OrderHappens: on a Good run order's Consistent answers as the reference's. -/
import Derived.Test.YtfeempgoejnfdaaH9
import Derived.Test.YtfeempgoejnfdaaA1
namespace Go.Proofs.Ytfeempgoejnfdaa.Ord
open Go.RowKit Go.Proofs.YtfeempgoejnfdaaW.PrintWords Go.Proofs.YtfeempgoejnfdaaW.PrintLast Go.Proofs.YtfeempgoejnfdaaW.PrintMore
set_option linter.unusedVariables false
set_option linter.unusedSimpArgs false
def GoodN (x : S76) : Prop := 0 < x.f0.f3 → x.f0.f2 ≠ x.f0.f3 ∧ writesB x.f0.f1 = true
theorem rowN_mem {p : S54 → Bool} {l : List S68} {x : S76} (h : x ∈ rowN p l) : ∃ k : Nat, l[k]? = some x.f0 ∧ x.f1 = (k : Int) := by
  simp only [rowN, List.mem_map, List.mem_filter] at h
  obtain ⟨⟨e, k⟩, ⟨hm, _⟩, rfl⟩ := h
  rw [List.mem_zipIdx_iff_getElem?] at hm
  exact ⟨k, hm, rfl⟩
theorem nodesN_good {p : S54 → Bool} {run : List (List S68)} (hg : GoodP run) : ∀ x, x ∈ nodesN p run → GoodN x := by
  intro x hx
  simp only [nodesN, List.mem_flatMap] at hx
  obtain ⟨l, hl, hx⟩ := hx
  obtain ⟨k, hk, _⟩ := rowN_mem hx
  obtain ⟨t, ht⟩ := List.mem_iff_getElem?.1 hl
  exact (hg t l ht x.f0 (List.mem_of_getElem? hk)).2.2.2
theorem rowN_nodup (p : S54 → Bool) (l : List S68) : (rowN p l).Nodup := by
  rw [rowN, List.Nodup, List.pairwise_map]
  refine List.Pairwise.sublist List.filter_sublist ?_
  rw [List.pairwise_iff_getElem]
  intro i j hi hj hij h
  simp only [List.getElem_zipIdx] at h
  injection h with _ h
  omega
theorem nodesN_nodup {p : S54 → Bool} {run : List (List S68)} (hg : GoodP run) : (nodesN p run).Nodup := by
  rw [nodesN, List.Nodup, List.pairwise_flatMap]
  refine ⟨fun l _ => rowN_nodup p l, ?_⟩
  rw [List.pairwise_iff_getElem]
  intro i j hi hj hij x hx y hy hxy
  subst hxy
  obtain ⟨k, hk, _⟩ := rowN_mem hx
  obtain ⟨k', hk', _⟩ := rowN_mem hy
  have h1 := (hg i _ (List.getElem?_eq_getElem hi) x.f0 (List.mem_of_getElem? hk)).1
  have h2 := (hg j _ (List.getElem?_eq_getElem hj) x.f0 (List.mem_of_getElem? hk')).1
  omega
def bo1 (l : List S76) (out : List (List Bool)) (i k : Nat) : Bool := rfB (rd_T76 l k) (rd_T76 l i) && hbOf out i k
def bo2 (l : List S76) (out : List (List Bool)) (i k : Nat) : Bool := hbOf out k i && decide ((rd_T76 l i).f0.f2 < (rd_T76 l k).f0.f3) && ((rd_T76 l i).f0.f2 == 0)
def lit3 (l : List S76) (out : List (List Bool)) (i k j : Nat) : Bool := rfB (rd_T76 l j) (rd_T76 l i) && hbOf out j k
def bo3 (l : List S76) (out : List (List Bool)) (i k : Nat) : Bool := hbOf out k i && (List.range l.length).any (lit3 l out i k)
def skipO (l : List S76) (i k : Nat) : Bool := (i == k) || !writesB (rd_T76 l k).f0.f1 || ((rd_T76 l k).f0.f1.f1 != (rd_T76 l i).f0.f1.f1)
def badO (l : List S76) (out : List (List Bool)) (i k : Nat) : Bool := !skipO l i k && (bo1 l out i k || bo2 l out i k || bo3 l out i k)
def rowO (l : List S76) (out : List (List Bool)) (i : Nat) : Bool := readsB (rd_T76 l i).f0.f1 && (List.range l.length).any fun k => badO l out i k
def consO (l : List S76) (out : List (List Bool)) : Bool := !((List.range l.length).any fun i => rowO l out i)
theorem consO_false {l : List S76} {out : List (List Bool)} {i k : Nat} (hi : i < l.length) (hk : k < l.length) (hr : readsB (rd_T76 l i).f0.f1 = true) (h : badO l out i k = true) : consO l out = false := by
  have : ((List.range l.length).any fun i => rowO l out i) = true := by
    refine List.any_eq_true.2 ⟨i, List.mem_range.2 hi, ?_⟩
    rw [rowO, hr, Bool.true_and]
    exact List.any_eq_true.2 ⟨k, List.mem_range.2 hk, h⟩
  rw [consO, this]; rfl
theorem rf_from {l : List S76} (hg : ∀ x, x ∈ l → GoodN x) (j i : Nat) (hj : j < l.length) : fromB l j i = rfB (rd_T76 l j) (rd_T76 l i) := by
  have hm : rd_T76 l j ∈ l := by
    unfold rd_T76; rw [Int.toNat_natCast, List.getD_eq_getElem?_getD, List.getElem?_eq_getElem hj]; exact List.getElem_mem hj
  have h := hg _ hm
  unfold fromB rfB
  by_cases hp : 0 < (rd_T76 l j).f0.f3
  · obtain ⟨h1, h2⟩ := h hp
    rw [h2]
    by_cases hij : j = i
    · subst hij
      have : ((rd_T76 l j).f0.f2 == (rd_T76 l j).f0.f3) = false := by simp [h1]
      simp [this]
    · have : (j != i) = true := by simp [hij]
      simp [this, Bool.and_comm, Bool.and_left_comm]
  · simp [hp]
theorem bad_same {l : List S76} (hg : ∀ x, x ∈ l → GoodN x) (out : List (List Bool)) (i k : Nat) (hi : i < l.length) (hk : k < l.length) : badR l out i k = (readsB (rd_T76 l i).f0.f1 && badO l out i k) := by
  have h1 : bad1 l out i k = bo1 l out i k := by rw [bad1, bo1, rf_from hg k i hk]
  have h2 : bad2 l out i k = bo2 l out i k := by
    unfold bad2 bo2
    by_cases h : (rd_T76 l i).f0.f2 = 0
    · rw [h]
    · have : ((rd_T76 l i).f0.f2 == 0) = false := by simp [h]
      simp [this]
  have h3 : (List.range l.length).any (bad3 l out i k) = bo3 l out i k := by
    rw [bo3]
    apply Bool.eq_iff_iff.2
    simp only [List.any_eq_true, List.mem_range, Bool.and_eq_true, bad3, lit3]
    constructor
    · rintro ⟨j, hj, ⟨a, b⟩, c⟩
      exact ⟨a, j, hj, by rw [← rf_from hg j i hj]; exact b, c⟩
    · rintro ⟨a, j, hj, b, c⟩
      exact ⟨j, hj, ⟨a, by rw [rf_from hg j i hj]; exact b⟩, c⟩
  rw [badR, badO, h1, h2, h3, skipR, skipO]
  generalize readsB (rd_T76 l i).f0.f1 = r
  cases r <;> simp
theorem cons_same {l : List S76} (hg : ∀ x, x ∈ l → GoodN x) (out : List (List Bool)) : consRB l out = consO l out := by
  rw [consRB, consO]
  congr 1
  apply Bool.eq_iff_iff.2
  simp only [List.any_eq_true, List.mem_range, rowO, Bool.and_eq_true]
  constructor
  · rintro ⟨i, hi, k, hk, h⟩
    rw [bad_same hg out i k hi hk, Bool.and_eq_true] at h
    exact ⟨i, hi, h.1, k, hk, h.2⟩
  · rintro ⟨i, hi, hr, k, hk, h⟩
    exact ⟨i, hi, k, hk, by rw [bad_same hg out i k hi hk, hr, h]; rfl⟩
theorem first_place {l : List S76} (hn : l.Nodup) {j k : Nat} {x : S76} (hj : l[j]? = some x) (hk : l[k]? = some x) : j = k := by
  obtain ⟨h1, e1⟩ := List.getElem?_eq_some_iff.1 hj
  obtain ⟨h2, e2⟩ := List.getElem?_eq_some_iff.1 hk
  exact (List.getElem_inj hn).1 (e1.trans e2.symm)
end Go.Proofs.Ytfeempgoejnfdaa.Ord

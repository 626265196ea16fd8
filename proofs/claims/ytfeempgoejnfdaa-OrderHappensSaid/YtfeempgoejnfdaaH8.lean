/- Racy is the same the other way round: plain law. -/
import Derived.Test.YtfeempgoejnfdaaH6
namespace Go.Proofs.Ytfeempgoejnfdaa.Ord
set_option linter.unusedVariables false
theorem racyR_at (l : List S76) (out : List (List Bool)) (i k : Nat) (h : i ≠ k) : racyR l out i k = racyAt l out i k := by
  unfold racyR racyAt
  have : (i != k) = true := by simpa using h
  rw [this]
  cases syncsB (rd_T76 l i).f0.f1 <;> cases syncsB (rd_T76 l k).f0.f1 <;> simp
theorem racyAt_sym (l : List S76) (out : List (List Bool)) (i k : Nat) : racyAt l out i k = racyAt l out k i := by
  unfold racyAt
  rw [Bool.or_comm (!syncsB (rd_T76 l i).f0.f1), Bool.or_comm (writesB (rd_T76 l i).f0.f1), show ((rd_T76 l i).f0.f0 == (rd_T76 l k).f0.f0) = ((rd_T76 l k).f0.f0 == (rd_T76 l i).f0.f0) from BEq.comm, show ((rd_T76 l i).f0.f1.f1 == (rd_T76 l k).f0.f1.f1) = ((rd_T76 l k).f0.f1.f1 == (rd_T76 l i).f0.f1.f1) from BEq.comm]
  generalize (out.getD i []).getD k false = x
  generalize (out.getD k []).getD i false = y
  cases x <;> cases y <;> simp
theorem racy_same (l : List S76) (out : List (List Bool)) : racyRB l out = racyB l out := by
  rw [Bool.eq_iff_iff]
  simp only [racyRB, racyB, List.any_eq_true, List.mem_range]
  constructor
  · rintro ⟨i, hi, k, hk, h⟩
    have hne : i ≠ k := fun he => by subst he; simp [racyR] at h
    rw [racyR_at _ _ _ _ hne] at h
    rcases Nat.lt_or_ge k i with hlt | hge
    · exact ⟨i, hi, k, hlt, h⟩
    · exact ⟨k, hk, i, by omega, by rwa [racyAt_sym]⟩
  · rintro ⟨i, hi, k, hk, h⟩
    exact ⟨i, hi, k, by omega, by rwa [racyR_at _ _ _ _ (by omega)]⟩
end Go.Proofs.Ytfeempgoejnfdaa.Ord

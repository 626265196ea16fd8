/- The order statements' argument, a slice of slices of events, is read by the kinds; the frame of their rows. -/
import Derived.Test.YtfeempgoejnfdaaO13
import Derived.Test.YtfeempgoejnfdaaOpen
namespace Go.Proofs.Ytfeempgoejnfdaa.Ord
open Go.RowKit Go.Proofs.YtfeempgoejnfdaaW.PrintWords Go.Proofs.Ytfeempgoejnfdaa.Opening
set_option linter.unusedVariables false
theorem opens54 (N : Nat) : Opens Try.prog (N + 1) 54 k54 (fun _ => True) :=
  (opens_struct (fun x : S54 => (x.f0, x.f1, x.f2, x.f3, x.f4, x.f5)) (fun a => ⟨a.1, a.2.1, a.2.2.1, a.2.2.2.1, a.2.2.2.2.1, a.2.2.2.2.2⟩) (fun _ => rfl) Try.underlying54 (by kernel_rfl)
    (opensFs_cons (opens_int Try.underlying3) rfl (by kernel_rfl) (opensFs_cons (opens_int Try.underlying3) rfl (by kernel_rfl) (opensFs_cons (opens_int Try.underlying3) rfl (by kernel_rfl) (opensFs_cons (opens_int Try.underlying3) rfl (by kernel_rfl) (opensFs_cons (opens_bool Try.underlying4) rfl (by kernel_rfl) (opensFs_one (opens_bool Try.underlying4) rfl (by kernel_rfl)))))))).imp fun _ _ => trivial
theorem opens68 (N : Nat) : Opens Try.prog (N + 2) 68 k68 (fun e => (Lit.int .i64 e.f3).wf = true) :=
  (opens_struct (fun x : S68 => (x.f0, x.f1, x.f2, x.f3)) (fun a => ⟨a.1, a.2.1, a.2.2.1, a.2.2.2⟩) (fun _ => rfl) Try.underlying68 (by kernel_rfl)
    (opensFs_cons (opens_int Try.underlying3) rfl (by kernel_rfl) (opensFs_cons (opens54 N) rfl (by kernel_rfl) (opensFs_cons (opens_int Try.underlying3) rfl (by kernel_rfl) (opensFs_one (opens_int Try.underlying3) rfl (by kernel_rfl)))))).imp fun _ h => h.2.2.2
theorem opens66 (N : Nat) : Opens Try.prog (N + 3) 66 (Kd.slice 68 k68) (fun l => l.length * 64 ≤ reachBytes ∧ ∀ e, e ∈ l → (Lit.int .i64 e.f3).wf = true) :=
  opens_slice Try.underlying66 (by kernel_rfl) (by kernel_rfl) (opens68 N)
theorem opens22 (N : Nat) : Opens Try.prog (N + 4) 22 (Kd.slice 66 krun) (fun r => r.length * 24 ≤ reachBytes ∧ ∀ l, l ∈ r → l.length * 64 ≤ reachBytes ∧ ∀ e, e ∈ l → (Lit.int .i64 e.f3).wf = true) :=
  opens_slice Try.underlying22 (by kernel_rfl) (by kernel_rfl) (opens66 N)
/-- What comes in as a [][]api.Event. -/
theorem open_run {H : Type} {enc : TypeId × Value → H} {W : World} {v : Value} {d : DataW H} {p : List MemPlace} (h : DataW.Trod enc Try.prog W 0 (fun _ => true) true 22 v d p) (hv : ∃ a len cap, v = .slice a len cap) (hw : ∀ m, m ∈ d.weights Try.prog 22 → m ≤ reachBytes) :
    ∃ (run : List (List S68)) (A : Option Addr) (c : Nat), v = .slice A run.length c ∧ krun.C W A run.length run ∧ (∀ l, l ∈ run → l.length ≤ 1000000000000000) ∧ ∀ l, l ∈ run → ∀ e, e ∈ l → (Lit.int .i64 e.f3).wf = true := by
  obtain ⟨fuel, hf⟩ := h
  obtain ⟨run, ⟨A, c, hcs, _, hC⟩, _, hq⟩ := opens22 fuel H enc W 0 _ _ fuel _ _ (by omega) hf hw
  obtain ⟨a, len, cap, rfl⟩ := hv
  refine ⟨run, A, c, by simpa [Value.cells] using hcs, hC, fun l hl => ?_, fun l hl => (hq l hl).2⟩
  have h1 := (hq l hl).1
  have : reachBytes = 140737488351232 := rfl
  omega
end Go.Proofs.Ytfeempgoejnfdaa.Ord

/- The reference's Writes, the law's great and the reference's Good: what they compute. Good: at most a million events, whose Ids are 64-bit numbers. -/
import Derived.Test.YtfeempgoejnfdaaO9
import Derived.Maps.OwnSet
import Derived.Maps.Keyed
namespace Go.Proofs.Ytfeempgoejnfdaa.Ord
open Go.RowKit Go.Proofs.YtfeempgoejnfdaaW.PrintWords Go.Proofs.YtfeempgoejnfdaaW.PrintLast Go.Proofs.YtfeempgoejnfdaaW.PrintMore
set_option linter.unusedVariables false
set_option linter.unusedSimpArgs false
theorem refWrites_any (x : S76) (w : World) : Calls Try.prog 46 #[v76 x] w (Gives (writesB x.f0.f1) w) := by
  generalize hb : writesB x.f0.f1 = b
  have HB := Lib.hid hb; clear hb
  go_enter Try.func46, Try.ntmps46
  go_wp2
  all_goals (go_ret; exact ⟨ret_bool (by rw [← HB.out]; simp [writesB, Bool.or_assoc, *]), (Below.refl _ _).alloc (Nat.le_refl _) _⟩)
/-- More than five threads, or 24 events? -/
def greatB (run : List (List S68)) : Bool := decide (5 < (run.length : Int)) || decide ((24 : Int) < ((run.map List.length).sum : Nat))
def wsum (l : List Nat) : Int := l.foldl (fun (a : Int) (n : Nat) => wrap64 (a + (n : Int))) 0
theorem wsum_snoc (l : List Nat) (n : Nat) : wsum (l ++ [n]) = wrap64 (wsum l + (n : Int)) := by simp [wsum, List.foldl_append]
theorem wsum_from (l : List Nat) : ∀ (s : Nat), s + l.sum ≤ 9223372036854775807 → l.foldl (fun (a : Int) (n : Nat) => wrap64 (a + (n : Int))) (s : Int) = ((s + l.sum : Nat) : Int) := by
  induction l with
  | nil => intro s _; simp
  | cons a t ih =>
    intro s h
    simp only [List.sum_cons] at h
    rw [List.foldl_cons, show wrap64 ((s : Int) + (a : Int)) = ((s + a : Nat) : Int) from by unfold wrap64; omega, ih (s + a) (by omega), List.sum_cons, Nat.add_assoc]
theorem wsum_small (l : List Nat) (h : l.sum ≤ 9223372036854775807) : wsum l = (l.sum : Nat) := by
  have := wsum_from l 0 (by omega)
  simpa [wsum] using this
theorem sum_le_mul (l : List Nat) (B : Nat) (h : ∀ x, x ∈ l → x ≤ B) : l.sum ≤ l.length * B := by
  induction l with
  | nil => simp
  | cons a t ih =>
    have h1 := h a (by simp)
    have h2 := ih fun x hx => h x (by simp [hx])
    simp only [List.sum_cons, List.length_cons, Nat.add_mul, Nat.one_mul]; omega
theorem great_any (run : List (List S68)) (A : Option Addr) (c : Nat) (w : World) (hrun : krun.C w A run.length run) (hS : ∀ l, l ∈ run → l.length ≤ 1000000000000000) : Calls Try.prog 14 #[.slice A run.length c] w (Gives (greatB run) w) := by
  have hmax := hrun.2.1
  have hfin : greatB run = (decide (5 < (run.length : Int)) || decide ((24 : Int) < wsum (run.map List.length))) := by
    unfold greatB
    by_cases h5 : 5 < (run.length : Int)
    · simp [h5]
    · rw [wsum_small]
      have := sum_le_mul (run.map List.length) 1000000000000000 (by intro x hx; obtain ⟨l, hl, rfl⟩ := List.mem_map.1 hx; exact hS l hl)
      simp at this; omega
  have HF := Lib.hid hfin; have HRUN := Lib.hid hrun; clear hfin hrun hS
  go_enter Try.func14, Try.ntmps14
  go_wp2
  go_loop [3, 8] (fun v x => ∃ i : Nat, x = .int .i64 i ∧ i ≤ run.length ∧ v = .int .i64 (wsum ((run.take i).map List.length))) (fun _ x => run.length - (intOf x).toNat)
  case atStart => exact ⟨0, rfl, by omega, rfl⟩
  case round =>
    obtain ⟨i, rfl, hi, rfl⟩ := hrel
    by_cases hlt : i < run.length
    · obtain ⟨ad, A0, c0, rfl, hc, _, hrow⟩ := at_L5 HRUN.out (i : Int) (by omega) (by omega)
      rw [Int.toNat_natCast] at hc
      have hrd : rd_L5 run (i : Int) = run[i] := by unfold rd_L5; rw [Int.toNat_natCast, List.getD_eq_getElem?_getD, List.getElem?_eq_getElem hlt]; rfl
      have HS := Lib.hid (show wsum ((run.take (i + 1)).map List.length) = wrap64 (wsum ((run.take i).map List.length) + ((rd_L5 run i).length : Int)) by
        rw [List.take_succ_eq_append_getElem hlt, List.map_append, List.map_cons, List.map_nil, wsum_snoc, hrd])
      clear hrd hrow
      generalize wsum ((run.take i).map List.length) = s at *
      generalize (rd_L5 run i).length = n at *
      go_wp2
      go_round
      case rel => exact ⟨i + 1, by go_num, by omega, by rw [HS.out]⟩
      case measure => simp [intOf]; omega
    · obtain rfl : i = run.length := by omega
      rw [List.take_length]
      generalize wsum (run.map List.length) = s at *
      go_wp2
      all_goals (go_ret; exact ⟨ret_bool (by rw [HF.out] <;> first | (simp [*]; done) | (simp [*]; omega)), Below.refl _ _⟩)
end Go.Proofs.Ytfeempgoejnfdaa.Ord

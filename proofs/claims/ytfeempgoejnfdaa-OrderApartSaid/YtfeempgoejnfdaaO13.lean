/- The law OrderSerial returns true, for every run that reads as data. -/
import Derived.Test.YtfeempgoejnfdaaO12
namespace Go.Proofs.Ytfeempgoejnfdaa.Ord
open Go.RowKit Go.Proofs.YtfeempgoejnfdaaW.PrintWords Go.Proofs.YtfeempgoejnfdaaW.PrintLast Go.Proofs.YtfeempgoejnfdaaW.PrintMore
set_option linter.unusedVariables false
set_option linter.unusedSimpArgs false
theorem small_of {run : List (List S68)} (h : greatB run = false) : (run.map List.length).sum ≤ 1000000 ∧ run.length ≤ 1000000 := by
  unfold greatB at h
  simp at h
  omega
set_option maxHeartbeats 1000000 in
theorem orderSerial_any (run : List (List S68)) (A : Option Addr) (c : Nat) (w : World) (hrun : krun.C w A run.length run) (hS : ∀ l, l ∈ run → l.length ≤ 1000000000000000) (hwf : ∀ l, l ∈ run → ∀ e, e ∈ l → (Lit.int .i64 e.f3).wf = true) :
    Calls Try.prog 4 #[.slice A run.length c] w (Gives true w) := by
  have HRUN := Lib.hid hrun; have HS := Lib.hid hS; have HWF := Lib.hid hwf; clear hrun hS hwf
  go_enter Try.func4, Try.ntmps4
  go_wp2_with fail
  refine (alive_any _).mono ?_; rintro e w1 ⟨rfl, hb1⟩
  have HB1 := Lib.hid hb1; clear hb1
  go_wp2_with fail
  refine (great_any run A c _ (Kd.C_below HRUN.out HB1.out) HS.out).mono ?_; rintro e w2 ⟨rfl, hb2⟩
  have HB2 := Lib.hid (HB1.out.trans (hb2.mono HB1.out.size)); clear hb2
  cases hg : greatB run
  · obtain ⟨hT, hl⟩ := small_of hg
    clear hg
    go_wp2_with fail
    refine (good_any run A c _ (Kd.C_below HRUN.out HB2.out) hT HWF.out).mono ?_; rintro e w3 ⟨b, rfl, hb3, _⟩
    have HB3 := Lib.hid (HB2.out.trans (hb3.mono HB2.out.size)); clear hb3
    cases b
    · go_wp2
      go_ret
      exact ⟨rfl, HB3.out⟩
    · obtain ⟨F, G, bS, hS, hSc⟩ := goC_cyc (matrix_sq allB [51, 52, 53, 54] run)
      have HSC := Lib.hid hS; have HSI := Lib.hid hSc; clear hS hSc
      go_wp2_with fail
      refine (serial_any run A c _ F G bS (Kd.C_below HRUN.out HB3.out) hT hl HSC.out).mono ?_; rintro e w4 ⟨rfl, hb4⟩
      have HB4 := Lib.hid (HB3.out.trans (hb4.mono HB3.out.size)); clear hb4
      cases bS
      · obtain ⟨F2, G2, bC, hC, hCc⟩ := goC_cyc (matrix_sq allB [50, 52, 53, 54] run)
        obtain ⟨F3, G3, bY, hY, hYc⟩ := goC_cyc (matrix_sq syncsB [51, 52, 53, 54] run)
        have hn : ¬ Cyc (matrixOf allB [51, 52, 53, 54] run) := fun h => by have := HSI.out.2 h; cases this
        obtain rfl : bC = false := by
          cases bC
          · rfl
          · exact absurd (coherent_of_serial run (hCc.1 rfl)) hn
        obtain rfl : bY = false := by
          cases bY
          · rfl
          · exact absurd (synced_of_serial run (hYc.1 rfl)) hn
        have HC := Lib.hid hC; have HY := Lib.hid hY; clear hC hY hCc hYc hn
        go_wp2_with fail
        refine (coherent_any run A c _ F2 G2 false (Kd.C_below HRUN.out HB4.out) hT hl HC.out).mono ?_; rintro e w5 ⟨rfl, hb5⟩
        have HB5 := Lib.hid (HB4.out.trans (hb5.mono HB4.out.size)); clear hb5
        go_wp2_with fail
        refine (synced_any run A c _ F3 G3 false (Kd.C_below HRUN.out HB5.out) hT hl HY.out).mono ?_; rintro e w6 ⟨rfl, hb6⟩
        have HB6 := Lib.hid (HB5.out.trans (hb6.mono HB5.out.size)); clear hb6
        go_wp2
        go_ret
        exact ⟨rfl, HB6.out⟩
      · go_wp2
        go_ret
        exact ⟨rfl, HB4.out⟩
  · go_wp2
    go_ret
    exact ⟨rfl, HB2.out⟩
end Go.Proofs.Ytfeempgoejnfdaa.Ord

/- The law OrderWays returns true, for every run that reads as data. -/
import Derived.Test.YtfeempgoejnfdaaR6
import Derived.Test.YtfeempgoejnfdaaO14
namespace Go.Proofs.Ytfeempgoejnfdaa.Ord
open Go.RowKit Go.Proofs.YtfeempgoejnfdaaW.PrintWords Go.Proofs.YtfeempgoejnfdaaW.PrintLast Go.Proofs.YtfeempgoejnfdaaW.PrintMore
set_option linter.unusedVariables false
set_option linter.unusedSimpArgs false
set_option maxHeartbeats 1000000 in
theorem orderWays_any (run : List (List S68)) (A : Option Addr) (c : Nat) (w : World) (hrun : krun.C w A run.length run) (hS : ∀ l, l ∈ run → l.length ≤ 1000000000000000) (hwf : ∀ l, l ∈ run → ∀ e, e ∈ l → (Lit.int .i64 e.f3).wf = true) :
    Calls Try.prog 3 #[.slice A run.length c] w (Gives true w) := by
  have HRUN := Lib.hid hrun; have HS := Lib.hid hS; have HWF := Lib.hid hwf; clear hrun hS hwf
  go_enter Try.func3, Try.ntmps3
  go_wp2_with fail
  refine (alive_any _).mono ?_; rintro e w1 ⟨rfl, hb1⟩
  have HB1 := Lib.hid hb1; clear hb1
  go_wp2_with fail
  refine (great_any run A c _ (Kd.C_below HRUN.out HB1.out) HS.out).mono ?_; rintro e w2 ⟨rfl, hb2⟩
  have HB2 := Lib.hid (HB1.out.trans (hb2.mono HB1.out.size)); clear hb2
  cases hg : greatB run
  · obtain ⟨hT, hl⟩ := small_of hg
    clear hg
    go_wp2_with fail
    refine (good_any run A c _ (Kd.C_below HRUN.out HB2.out) hT HWF.out).mono ?_; rintro e w3 ⟨b, rfl, hb3, _⟩
    have HB3 := Lib.hid (HB2.out.trans (hb3.mono HB2.out.size)); clear hb3
    cases b
    · go_wp2
      go_ret
      exact ⟨rfl, HB3.out⟩
    · obtain ⟨F, G, bS, hS, hSc⟩ := goC_cyc (matrix_sq allB [51, 52, 53, 54] run)
      obtain ⟨F2, G2, bC, hC, hCc⟩ := goC_cyc (matrix_sq allB [50, 52, 53, 54] run)
      obtain ⟨F3, G3, bY, hY, hYc⟩ := goC_cyc (matrix_sq syncsB [51, 52, 53, 54] run)
      have ES := Lib.hid (show acyclicB (nodesN (whichB false) run) false = !bS from acyclic_not allB run false bS hSc)
      have EC := Lib.hid (show acyclicB (nodesN (whichB false) run) true = !bC from acyclic_not allB run true bC hCc)
      have EY := Lib.hid (show acyclicB (nodesN (whichB true) run) false = !bY from acyclic_not syncsB run false bY hYc)
      have HSC := Lib.hid hS; have HC := Lib.hid hC; have HY := Lib.hid hY; clear hS hSc hC hCc hY hYc
      go_wp2_with fail
      refine (coherent_any run A c _ F2 G2 bC (Kd.C_below HRUN.out HB3.out) hT hl HC.out).mono ?_; rintro e w4 ⟨rfl, hb4⟩
      have HB4 := Lib.hid (HB3.out.trans (hb4.mono HB3.out.size)); clear hb4
      go_wp2_with fail
      refine (acyclic_any run false true A c _ (Kd.C_below HRUN.out HB4.out) hT hl).mono ?_; rintro e w5 ⟨rfl, hb5⟩
      have HB5 := Lib.hid (HB4.out.trans (hb5.mono HB4.out.size)); clear hb5
      rw [EC.out]
      generalize (!bC) = x at *
      have hxx : (x == x) = true := by simp
      go_wp2_with fail
      refine (synced_any run A c _ F3 G3 bY (Kd.C_below HRUN.out HB5.out) hT hl HY.out).mono ?_; rintro e w6 ⟨rfl, hb6⟩
      have HB6 := Lib.hid (HB5.out.trans (hb6.mono HB5.out.size)); clear hb6
      go_wp2_with fail
      refine (acyclic_any run true false A c _ (Kd.C_below HRUN.out HB6.out) hT hl).mono ?_; rintro e w7 ⟨rfl, hb7⟩
      have HB7 := Lib.hid (HB6.out.trans (hb7.mono HB6.out.size)); clear hb7
      rw [EY.out]
      generalize (!bY) = y at *
      have hyy : (y == y) = true := by simp
      go_wp2_with fail
      refine (serial_any run A c _ F G bS (Kd.C_below HRUN.out HB7.out) hT hl HSC.out).mono ?_; rintro e w8 ⟨rfl, hb8⟩
      have HB8 := Lib.hid (HB7.out.trans (hb8.mono HB7.out.size)); clear hb8
      go_wp2_with fail
      refine (acyclic_any run false false A c _ (Kd.C_below HRUN.out HB8.out) hT hl).mono ?_; rintro e w9 ⟨rfl, hb9⟩
      have HB9 := Lib.hid (HB8.out.trans (hb9.mono HB8.out.size)); clear hb9
      rw [ES.out]
      generalize (!bS) = z at *
      have hzz : (z == z) = true := by simp
      go_wp2
      go_ret
      exact ⟨rfl, HB9.out⟩
  · go_wp2
    go_ret
    exact ⟨rfl, HB2.out⟩
end Go.Proofs.Ytfeempgoejnfdaa.Ord

/- The law OrderHappens returns true, for every run that reads as data. -/
import Derived.Test.YtfeempgoejnfdaaH13
import Derived.Test.YtfeempgoejnfdaaH8
import Derived.Test.YtfeempgoejnfdaaO14
namespace Go.Proofs.Ytfeempgoejnfdaa.Ord
open Go.RowKit Go.Proofs.YtfeempgoejnfdaaW.PrintWords Go.Proofs.YtfeempgoejnfdaaW.PrintLast Go.Proofs.YtfeempgoejnfdaaW.PrintMore
set_option linter.unusedVariables false
set_option linter.unusedSimpArgs false
set_option maxHeartbeats 1000000 in
theorem orderHappens_any (run : List (List S68)) (A : Option Addr) (c : Nat) (w : World) (hrun : krun.C w A run.length run) (hS : ∀ l, l ∈ run → l.length ≤ 1000000000000000) (hwf : ∀ l, l ∈ run → ∀ e, e ∈ l → (Lit.int .i64 e.f3).wf = true) :
    Calls Try.prog 5 #[.slice A run.length c] w (Gives true w) := by
  have HRUN := Lib.hid hrun; have HS := Lib.hid hS; have HWF := Lib.hid hwf; clear hrun hS hwf
  go_enter Try.func5, Try.ntmps5
  go_wp2_with fail
  refine (alive_any _).mono ?_; rintro e w1 ⟨rfl, hb1⟩
  have HB1 := Lib.hid hb1; clear hb1
  go_wp2_with fail
  refine (great_any run A c _ (Kd.C_below HRUN.out HB1.out) HS.out).mono ?_; rintro e w2 ⟨rfl, hb2⟩
  have HB2 := Lib.hid (HB1.out.trans (hb2.mono HB1.out.size)); clear hb2
  cases hg : greatB run
  · obtain ⟨hT, hl⟩ := small_of hg
    clear hg
    go_wp2_with fail
    refine (good_any run A c _ (Kd.C_below HRUN.out HB2.out) hT HWF.out).mono ?_; rintro e w3 ⟨b, rfl, hb3, hgood⟩
    have HB3 := Lib.hid (HB2.out.trans (hb3.mono HB2.out.size)); clear hb3
    cases b
    · go_wp2
      go_ret
      exact ⟨rfl, HB3.out⟩
    · have HG := Lib.hid (hgood rfl); clear hgood
      have ER := Lib.hid (racy_same (nodesN allB run) (aheadC (nodesN allB run)))
      have EC := Lib.hid (cons_same (nodesN_good (p := allB) HG.out) (aheadC (nodesN allB run)))
      have HD := Lib.hid (nodesN_nodup (p := allB) HG.out)
      have HSQ := Lib.hid (aheadC_sq (nodesN allB run)).1
      have HAR := Lib.hid (ahead_rows (nodesN allB run))
      go_wp2_with fail
      refine (consistent_any run A c _ (Kd.C_below HRUN.out HB3.out) hT hl HD.out).mono ?_; rintro e w4 ⟨rfl, hb4⟩
      have HB4 := Lib.hid (HB3.out.trans (hb4.mono HB3.out.size)); clear hb4
      rw [← EC.out]
      go_wp2_with fail
      refine (refConsistent_any run A c _ (Kd.C_below HRUN.out HB4.out) hT hl).mono ?_; rintro e w5 ⟨rfl, hb5⟩
      have HB5 := Lib.hid (HB4.out.trans (hb5.mono HB4.out.size)); clear hb5
      generalize consRB (nodesN allB run) (aheadC (nodesN allB run)) = x at *
      have hxx : (x == x) = true := by simp
      go_wp2_with fail
      refine (racy_any run A c _ ((nodesN allB run).length + 2) (aheadC (nodesN allB run)) (Kd.C_below HRUN.out HB5.out) hT hl HSQ.out HAR.out).mono ?_; rintro e w6 ⟨rfl, hb6⟩
      have HB6 := Lib.hid (HB5.out.trans (hb6.mono HB5.out.size)); clear hb6
      rw [← ER.out]
      go_wp2_with fail
      refine (refRacy_any run A c _ (Kd.C_below HRUN.out HB6.out) hT hl).mono ?_; rintro e w7 ⟨rfl, hb7⟩
      have HB7 := Lib.hid (HB6.out.trans (hb7.mono HB6.out.size)); clear hb7
      generalize racyRB (nodesN allB run) (aheadC (nodesN allB run)) = y at *
      have hyy : (y == y) = true := by simp
      go_wp2
      go_ret
      exact ⟨rfl, HB7.out⟩
  · go_wp2
    go_ret
    exact ⟨rfl, HB2.out⟩
end Go.Proofs.Ytfeempgoejnfdaa.Ord

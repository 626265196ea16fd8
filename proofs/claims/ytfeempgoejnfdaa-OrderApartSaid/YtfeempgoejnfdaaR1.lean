/- The reference's small functions and its Nodes: what they compute. -/
import Derived.Test.YtfeempgoejnfdaaO10
namespace Go.Proofs.Ytfeempgoejnfdaa.Ord
open Go.RowKit Go.Proofs.YtfeempgoejnfdaaW.PrintWords Go.Proofs.YtfeempgoejnfdaaW.PrintLast Go.Proofs.YtfeempgoejnfdaaW.PrintMore
set_option linter.unusedVariables false
set_option linter.unusedSimpArgs false
theorem refReads_any (x : S76) (w : World) : Calls Try.prog 68 #[v76 x] w (Gives (readsB x.f0.f1) w) := by
  generalize hb : readsB x.f0.f1 = b
  have HB := Lib.hid hb; clear hb
  go_enter Try.func68, Try.ntmps68
  go_wp2
  all_goals (go_ret; exact ⟨ret_bool (by rw [← HB.out]; simp [readsB, *]), (Below.refl _ _).alloc (Nat.le_refl _) _⟩)
def refSyncedB (x : S54) : Bool := (x.f0 == 5 || x.f0 == 6) || x.f4 && (x.f0 == 1 || x.f0 == 2)
theorem refSyncedB_eq (x : S54) : refSyncedB x = syncsB x := by unfold refSyncedB syncsB; rw [Bool.or_comm]
theorem refSynced_any (x : S76) (w : World) : Calls Try.prog 70 #[v76 x] w (Gives (syncsB x.f0.f1) w) := by
  rw [← refSyncedB_eq]
  generalize hb : refSyncedB x.f0.f1 = b
  have HB := Lib.hid hb; clear hb
  go_enter Try.func70, Try.ntmps70
  go_wp2
  all_goals (go_ret; exact ⟨ret_bool (by rw [← HB.out]; simp [refSyncedB, Bool.or_assoc, *]), ((Below.refl _ _).alloc (Nat.le_refl _) _)⟩)
def whichB (only : Bool) : S54 → Bool := if only then syncsB else allB
def RefNodesGives (l : List S76) (w : World) (e : Ending) (w' : World) : Prop := ∃ v, e = .returned v ∧ Kd.R k76 76 w' w.heap.size (fun _ => True) v l ∧ Below w.heap.size w w'
def RefNodesAt (p : S54 → Bool) (run : List (List S68)) (w : World) (i k : Nat) (v : Value) (wr : World) : Prop := Kd.R k76 76 wr w.heap.size (fun _ => True) v (preN p run i k) ∧ Below w.heap.size w wr
set_option maxRecDepth 100000 in
set_option maxHeartbeats 1000000 in
theorem refNodes_any (run : List (List S68)) (only : Bool) (A : Option Addr) (c : Nat) (w : World) (hrun : krun.C w A run.length run) (hT : (run.map List.length).sum ≤ 1000000) (hrl : run.length ≤ 1000000) :
    Calls Try.prog 56 #[.slice A run.length c, .bool only] w (RefNodesGives (nodesN (whichB only) run) w) := by
  have HRUN := Lib.hid hrun; clear hrun
  go_enter Try.func56, Try.ntmps56
  go_wp2
  go_loopw [5, 13] (fun v x wr => ∃ i : Nat, x = .int .i64 i ∧ i ≤ run.length ∧ RefNodesAt (whichB only) run w i 0 v wr) (fun _ x _ => run.length - (intOf x).toNat)
  case atStart => exact ⟨0, rfl, by omega, by simpa [preN, nodesN, rowN] using Kd.R_nil _ _ _ _ _, Below.refl _ _⟩
  case round =>
    obtain ⟨i, rfl, hi, hR, hB⟩ := hrel
    obtain ⟨wo, rfl⟩ : ∃ wo : World, wo = wr := ⟨_, rfl⟩
    have HR := Lib.hid hR; have HB := Lib.hid hB; clear hR hB
    by_cases hlt : i < run.length
    · obtain ⟨ad, A0, c0, rfl, hcw, _, hrow⟩ := at_L5 HRUN.out (i : Int) (by omega) (by omega)
      rw [Int.toNat_natCast] at hcw
      have hc := pw_cell_below HB.out hcw
      clear hcw
      have hrd : rd_L5 run (i : Int) = run.getD i [] := by unfold rd_L5; rw [Int.toNat_natCast]
      rw [hrd] at hc hrow
      clear hrd
      generalize hrowe : run.getD i [] = row at *
      have hrmax := hrow.2.1
      have HROWE := Lib.hid hrowe; have HROW := Lib.hid hrow; clear hrowe hrow
      go_wp2
      go_loopw [5, 19] (fun v x wr => ∃ k : Nat, x = .int .i64 k ∧ k ≤ row.length ∧ RefNodesAt (whichB only) run w i k v wr) (fun _ x _ => row.length - (intOf x).toNat)
      case atStart => exact ⟨0, rfl, by omega, ⟨HR.out, HB.out⟩⟩
      case round =>
        obtain ⟨k, rfl, hk, hR2, hB2⟩ := hrel
        have HR2 := Lib.hid hR2; have HB2 := Lib.hid hB2; clear hR2 hB2
        by_cases hlt2 : k < row.length
        · obtain ⟨ad2, rfl, g0, g1, g2, g3, g4, g5, g6, g7, g8⟩ := at_T68 (Kd.C_below HROW.out HB2.out) (k : Int) (by omega) (by omega)
          rw [Int.toNat_natCast] at *
          have he : (run.getD i [])[k]? = some (rd_T68 row k) := by
            rw [HROWE.out]; unfold rd_T68; rw [Int.toNat_natCast, List.getD_eq_getElem?_getD, List.getElem?_eq_getElem hlt2]; rfl
          have HE := Lib.hid he; clear he
          go_wp2_with fail
          refine (refReads_any ⟨rd_T68 row k, (k : Int)⟩ _).mono ?_; rintro e w1 ⟨rfl, hb1⟩; obtain ⟨hc1, hf1⟩ := bcell hb1
          have hl1 : wr.heap.size + 1 < w1.heap.size := by have := hb1.size; simp at this; omega
          have HB1 := Lib.hid ((((Below.refl _ _).alloc (Nat.le_refl _) _).alloc (by simp) _).trans (hb1.mono (by simp; omega)) : Below wr.heap.size wr w1); clear hb1
          cases h1 : readsB (rd_T68 row k).f1
          · go_wp2_with fail
            refine (refWrites_any ⟨rd_T68 row k, (k : Int)⟩ _).mono ?_; rintro e w2 ⟨rfl, hb2⟩; obtain ⟨hc2, hf2⟩ := bcell hb2
            have hl2 : wr.heap.size + 1 < w2.heap.size := by have := hb2.size; omega
            have HBB := Lib.hid (HB1.out.trans (hb2.mono HB1.out.size) : Below wr.heap.size wr w2); clear hb2
            cases h2 : writesB (rd_T68 row k).f1
            · go_wp2
              go_roundw
              case rel => exact ⟨k + 1, by go_num, by omega, by rw [preN_succ _ _ _ _ _ HE.out, if_neg (by simp [keepN, h1, h2]), List.append_nil]; exact Kd.R_below HR2.out (HBB.out), HB2.out.trans ((HBB.out).mono HB2.out.size)⟩
              case measure => simp [intOf]; omega
            · cases only
              · have hkp : keepN (whichB false) (rd_T68 row k) = true := by simp [keepN, whichB, allB, h2]
                have HKP := Lib.hid hkp; clear hkp
                go_wp2_with (at_builtin; refine Kd.R_append k76 (w0 := w) w.heap.size rfl _ _ 86 76 (.agg #[.int .i64 0, .int .i64 0, .int .i64 0, .int .i64 0, .int .i64 0, .bool false, .bool false, .int .i64 0, .int .i64 0, .int .i64 0]) 72 rfl Try.underlying86 info76 rfl (by decide) (by decide) _ (preN (whichB false) run i k) ⟨rd_T68 row k, (k : Int)⟩ (c76 ⟨rd_T68 row k, (k : Int)⟩) (fun _ => True) (fun _ => False) rfl rfl (k76_mkM _ _ _ _) (fun _ h => h.elim) (fun _ _ => trivial) (Kd.R_below HR2.out HBB.out) (HB2.out.trans ((HBB.out).mono HB2.out.size)) (Nat.le_trans HB2.out.size (HBB.out).size) (by have := preN_len (whichB false) run i k hlt; omega) ?_; intro v1 w9 hR9 hB9 hg9 _; have HR9 := Lib.hid hR9; have HB9 := Lib.hid hB9; clear hR9 hB9 hg9)
                go_roundw
                case rel => exact ⟨k + 1, by go_num, by omega, by rw [preN_succ _ _ _ _ _ HE.out, if_pos HKP.out]; exact HR9.out, HB9.out⟩
                case measure => simp [intOf]; omega
              · go_wp2_with fail
                refine (refSynced_any ⟨rd_T68 row k, (k : Int)⟩ _).mono ?_; rintro e w5 ⟨rfl, hb5⟩; obtain ⟨hc5, hf5⟩ := bcell hb5
                have HB5 := Lib.hid (HBB.out.trans (hb5.mono HBB.out.size) : Below wr.heap.size wr w5); clear hb5
                cases hs : syncsB (rd_T68 row k).f1
                · go_wp2
                  go_roundw
                  case rel => exact ⟨k + 1, by go_num, by omega, by rw [preN_succ _ _ _ _ _ HE.out, if_neg (by simp [keepN, whichB, hs]), List.append_nil]; exact Kd.R_below HR2.out (HB5.out), HB2.out.trans ((HB5.out).mono HB2.out.size)⟩
                  case measure => simp [intOf]; omega
                · have hkp : keepN (whichB true) (rd_T68 row k) = true := by simp [keepN, whichB, hs, h2]
                  have HKP := Lib.hid hkp; clear hkp
                  go_wp2_with (at_builtin; refine Kd.R_append k76 (w0 := w) w.heap.size rfl _ _ 86 76 (.agg #[.int .i64 0, .int .i64 0, .int .i64 0, .int .i64 0, .int .i64 0, .bool false, .bool false, .int .i64 0, .int .i64 0, .int .i64 0]) 72 rfl Try.underlying86 info76 rfl (by decide) (by decide) _ (preN (whichB true) run i k) ⟨rd_T68 row k, (k : Int)⟩ (c76 ⟨rd_T68 row k, (k : Int)⟩) (fun _ => True) (fun _ => False) rfl rfl (k76_mkM _ _ _ _) (fun _ h => h.elim) (fun _ _ => trivial) (Kd.R_below HR2.out HB5.out) (HB2.out.trans ((HB5.out).mono HB2.out.size)) (Nat.le_trans HB2.out.size (HB5.out).size) (by have := preN_len (whichB true) run i k hlt; omega) ?_; intro v1 w9 hR9 hB9 hg9 _; have HR9 := Lib.hid hR9; have HB9 := Lib.hid hB9; clear hR9 hB9 hg9)
                  go_roundw
                  case rel => exact ⟨k + 1, by go_num, by omega, by rw [preN_succ _ _ _ _ _ HE.out, if_pos HKP.out]; exact HR9.out, HB9.out⟩
                  case measure => simp [intOf]; omega
          · cases only
            · have hkp : keepN (whichB false) (rd_T68 row k) = true := by simp [keepN, whichB, allB, h1]
              have HKP := Lib.hid hkp; clear hkp
              go_wp2_with (at_builtin; refine Kd.R_append k76 (w0 := w) w.heap.size rfl _ _ 86 76 (.agg #[.int .i64 0, .int .i64 0, .int .i64 0, .int .i64 0, .int .i64 0, .bool false, .bool false, .int .i64 0, .int .i64 0, .int .i64 0]) 72 rfl Try.underlying86 info76 rfl (by decide) (by decide) _ (preN (whichB false) run i k) ⟨rd_T68 row k, (k : Int)⟩ (c76 ⟨rd_T68 row k, (k : Int)⟩) (fun _ => True) (fun _ => False) rfl rfl (k76_mkM _ _ _ _) (fun _ h => h.elim) (fun _ _ => trivial) (Kd.R_below HR2.out HB1.out) (HB2.out.trans ((HB1.out).mono HB2.out.size)) (Nat.le_trans HB2.out.size (HB1.out).size) (by have := preN_len (whichB false) run i k hlt; omega) ?_; intro v1 w9 hR9 hB9 hg9 _; have HR9 := Lib.hid hR9; have HB9 := Lib.hid hB9; clear hR9 hB9 hg9)
              go_roundw
              case rel => exact ⟨k + 1, by go_num, by omega, by rw [preN_succ _ _ _ _ _ HE.out, if_pos HKP.out]; exact HR9.out, HB9.out⟩
              case measure => simp [intOf]; omega
            · go_wp2_with fail
              refine (refSynced_any ⟨rd_T68 row k, (k : Int)⟩ _).mono ?_; rintro e w5 ⟨rfl, hb5⟩; obtain ⟨hc5, hf5⟩ := bcell hb5
              have HB5 := Lib.hid (HB1.out.trans (hb5.mono HB1.out.size) : Below wr.heap.size wr w5); clear hb5
              cases hs : syncsB (rd_T68 row k).f1
              · go_wp2
                go_roundw
                case rel => exact ⟨k + 1, by go_num, by omega, by rw [preN_succ _ _ _ _ _ HE.out, if_neg (by simp [keepN, whichB, hs]), List.append_nil]; exact Kd.R_below HR2.out (HB5.out), HB2.out.trans ((HB5.out).mono HB2.out.size)⟩
                case measure => simp [intOf]; omega
              · have hkp : keepN (whichB true) (rd_T68 row k) = true := by simp [keepN, whichB, hs, h1]
                have HKP := Lib.hid hkp; clear hkp
                go_wp2_with (at_builtin; refine Kd.R_append k76 (w0 := w) w.heap.size rfl _ _ 86 76 (.agg #[.int .i64 0, .int .i64 0, .int .i64 0, .int .i64 0, .int .i64 0, .bool false, .bool false, .int .i64 0, .int .i64 0, .int .i64 0]) 72 rfl Try.underlying86 info76 rfl (by decide) (by decide) _ (preN (whichB true) run i k) ⟨rd_T68 row k, (k : Int)⟩ (c76 ⟨rd_T68 row k, (k : Int)⟩) (fun _ => True) (fun _ => False) rfl rfl (k76_mkM _ _ _ _) (fun _ h => h.elim) (fun _ _ => trivial) (Kd.R_below HR2.out HB5.out) (HB2.out.trans ((HB5.out).mono HB2.out.size)) (Nat.le_trans HB2.out.size (HB5.out).size) (by have := preN_len (whichB true) run i k hlt; omega) ?_; intro v1 w9 hR9 hB9 hg9 _; have HR9 := Lib.hid hR9; have HB9 := Lib.hid hB9; clear hR9 hB9 hg9)
                go_roundw
                case rel => exact ⟨k + 1, by go_num, by omega, by rw [preN_succ _ _ _ _ _ HE.out, if_pos HKP.out]; exact HR9.out, HB9.out⟩
                case measure => simp [intOf]; omega
        · obtain rfl : k = row.length := by omega
          go_wp2
          go_roundw
          case rel => exact ⟨i + 1, by go_num, by omega, by rw [preN_zero, ← preN_row _ _ _ hlt, HROWE.out]; exact HR2.out, HB2.out⟩
          case measure => simp [intOf]; omega
    · obtain rfl : i = run.length := by omega
      go_wp2
      go_ret
      exact ⟨_, rfl, by have h := HR.out; rw [preN_zero, List.take_length] at h; exact h, HB.out⟩
end Go.Proofs.Ytfeempgoejnfdaa.Ord

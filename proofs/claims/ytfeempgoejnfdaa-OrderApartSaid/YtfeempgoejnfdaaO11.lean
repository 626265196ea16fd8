/- The reference's Good: it returns; where it returns true, each event of row t is of thread t, its numbers are not negative, and where it has an Id it writes and doesn't read from itself. At most a million events, whose Ids are 64-bit numbers. -/
import Derived.Test.YtfeempgoejnfdaaO10
import Derived.Deep.DeepMust
namespace Go.Proofs.Ytfeempgoejnfdaa.Ord
open Go.RowKit Go.Maps Go.Proofs.YtfeempgoejnfdaaW.PrintWords Go.Proofs.YtfeempgoejnfdaaW.PrintLast Go.Proofs.YtfeempgoejnfdaaW.PrintMore
set_option linter.unusedVariables false
set_option linter.unusedSimpArgs false
def GoodEv (t : Nat) (e : S68) : Prop := e.f0 = (t : Int) ∧ 0 ≤ e.f2 ∧ 0 ≤ e.f3 ∧ (0 < e.f3 → e.f2 ≠ e.f3 ∧ writesB e.f1 = true)
def GoodP (run : List (List S68)) : Prop := ∀ (t : Nat) (l : List S68), run[t]? = some l → ∀ e, e ∈ l → GoodEv t e
def GoodGives (run : List (List S68)) (w : World) (e : Ending) (w' : World) : Prop := ∃ b : Bool, e = .returned (.bool b) ∧ Below w.heap.size w w' ∧ (b = true → GoodP run)
theorem take_mem {α : Type} {l : List α} {k : Nat} {e : α} (h : e ∈ l.take (k + 1)) : e ∈ l.take k ∨ l[k]? = some e := by
  rcases Nat.lt_or_ge k l.length with hk | hk
  · rw [List.take_succ_eq_append_getElem hk, List.mem_append] at h
    rcases h with h | h
    · exact .inl h
    · simp at h; right; rw [List.getElem?_eq_getElem hk, h]
  · rw [List.take_of_length_le (by omega)] at h
    rw [List.take_of_length_le hk]; exact .inl h
theorem zero4 (w : World) : (zeroValue 4).run Try.prog w = .ok (.bool false) w := by kernel_rfl
theorem seen_any {H : Type} {w : World} {b n : Nat} {D : DataW H} (h : w.ownsMap Try.prog 3 (plainElem Try.prog 4) b n D) (x : Int) (hw : (Lit.int .i64 x).wf = true) : ∃ s : Bool, (Instr.lookup 73 (.map (some b)) (.int .i64 x) false).run Try.prog w = .ok (.bool s) w := by
  obtain ⟨v, ps, hrun, hv⟩ := h.lookup (int_keyed Try.underlying3) Try.underlying73 (zero4 w) (plainElem_bool Try.underlying4 false) (keyOf_int_mk Try.underlying3 hw)
  simp only [plainElem, Try.underlying4] at hv
  split at hv <;> first | exact ⟨_, hrun⟩ | simp_all
def GoodAt (run : List (List S68)) (w : World) (i : Nat) (wr : World) : Prop :=
  ∃ (n : Nat) (D : DataW Unit), wr.ownsMap Try.prog 3 (plainElem Try.prog 4) w.heap.size n D ∧ n ≤ ((run.take i).map List.length).sum ∧ Below w.heap.size w wr ∧ ∀ (t : Nat) (l : List S68), t < i → run[t]? = some l → ∀ e, e ∈ l → GoodEv t e
set_option maxRecDepth 100000 in
set_option maxHeartbeats 2000000 in
theorem good_any (run : List (List S68)) (A : Option Addr) (c : Nat) (w : World) (hrun : krun.C w A run.length run) (hT : (run.map List.length).sum ≤ 1000000) (hwf : ∀ l, l ∈ run → ∀ e, e ∈ l → (Lit.int .i64 e.f3).wf = true) :
    Calls Try.prog 15 #[.slice A run.length c] w (GoodGives run w) := by
  have hmax := hrun.2.1
  have HRUN := Lib.hid hrun; have HWFA := Lib.hid hwf; clear hrun hwf
  have hmm := @run_makeMap Try.prog
  go_enter Try.func15, Try.ntmps15
  go_wp2
  go_loopw [11] (fun x wr => ∃ i : Nat, x = .int .i64 i ∧ i ≤ run.length ∧ GoodAt run w i wr) (fun x _ => run.length - (intOf x).toNat)
  case atStart => exact ⟨0, rfl, by omega, 0, .map [], World.ownsMap_made _ _ _ _, by simp, (Below.refl _ _).alloc (Nat.le_refl _) _, fun t l h => by omega⟩
  case round =>
    obtain ⟨i, rfl, hi, n, D, hown, hn, hB, hpre⟩ := hrel
    have HOWN := Lib.hid hown; have HB := Lib.hid hB; have HPRE := Lib.hid hpre; clear hown hB hpre
    obtain ⟨wo, rfl⟩ : ∃ wo : World, wo = wr := ⟨_, rfl⟩
    by_cases hlt : i < run.length
    · obtain ⟨ad, A0, c0, rfl, hcw, _, hrow⟩ := at_L5 HRUN.out (i : Int) (by omega) (by omega)
      rw [Int.toNat_natCast] at hcw
      have hc := pw_cell_below HB.out hcw
      clear hcw
      have hrd : rd_L5 run (i : Int) = run.getD i [] := by unfold rd_L5; rw [Int.toNat_natCast]
      rw [hrd] at hc hrow
      clear hrd
      have hsum : ((run.take (i + 1)).map List.length).sum = ((run.take i).map List.length).sum + (run.getD i []).length := by
        rw [List.take_succ_eq_append_getElem hlt, List.map_append, List.sum_append]
        simp [List.getD_eq_getElem?_getD, List.getElem?_eq_getElem hlt]
      have htot : ((run.take (i + 1)).map List.length).sum ≤ (run.map List.length).sum := by rw [List.map_take]; exact sum_take_le _ _
      have hro : run[i]? = some (run.getD i []) := by rw [List.getD_eq_getElem?_getD, List.getElem?_eq_getElem hlt]; rfl
      generalize hrowe : run.getD i [] = row at *
      have hrmax := hrow.2.1
      have hmem : row ∈ run := List.mem_of_getElem? hro
      have HROW := Lib.hid hrow; have HRO := Lib.hid hro; have HSUM := Lib.hid hsum; have HMEM := Lib.hid hmem; clear hrowe hrow hro hmem
      have hbnd : ((run.take i).map List.length).sum + row.length ≤ 1000000 := by rw [← hsum]; omega
      clear hsum htot
      generalize ((run.take i).map List.length).sum = S0 at *
      go_wp2
      go_loopw [18] (fun x wr => ∃ k : Nat, x = .int .i64 k ∧ k ≤ row.length ∧ ∃ (n : Nat) (D : DataW Unit), wr.ownsMap Try.prog 3 (plainElem Try.prog 4) w.heap.size n D ∧ n ≤ S0 + k ∧ Below w.heap.size w wr ∧ (∀ (t : Nat) (l : List S68), t < i → run[t]? = some l → ∀ e, e ∈ l → GoodEv t e) ∧ ∀ e, e ∈ row.take k → GoodEv i e) (fun x _ => row.length - (intOf x).toNat)
      case atStart => exact ⟨0, rfl, by omega, n, D, HOWN.out, by omega, HB.out, HPRE.out, fun e he => by simp at he⟩
      case round =>
        obtain ⟨k, rfl, hk, n, D, hown, hn, hB, hpre, hpr2⟩ := hrel
        have HOWN := Lib.hid hown; have HBW := Lib.hid hB; have HPRE := Lib.hid hpre; have HPR2 := Lib.hid hpr2; clear hown hB hpre hpr2
        by_cases hlt2 : k < row.length
        · obtain ⟨ad2, rfl, g0, g1, g2, g3, g4, g5, g6, g7, g8⟩ := at_T68 (Kd.C_below HROW.out HBW.out) (k : Int) (by omega) (by omega)
          rw [Int.toNat_natCast] at *
          have he : row[k]? = some (rd_T68 row k) := by
            unfold rd_T68; rw [Int.toNat_natCast, List.getD_eq_getElem?_getD, List.getElem?_eq_getElem hlt2]; rfl
          have hwf := HWFA.out row HMEM.out _ (List.mem_of_getElem? he)
          generalize rd_T68 row (k : Int) = ev at *
          have HE := Lib.hid he; have HWF := Lib.hid hwf; clear he hwf
          have hnmax : n < maxLen := by unfold maxLen; omega
          have HA := Lib.hid (fun (o : Obj) => ((Below.refl wr.heap.size wr).alloc (Nat.le_refl _) o))
          by_cases hT0 : ev.f0 = (i : Int)
          · have hTb : (ev.f0 != (i : Int)) = false := by simp [hT0]
            by_cases hR0 : 0 ≤ ev.f2
            · by_cases hI0 : 0 ≤ ev.f3
              · obtain ⟨s, hs⟩ := seen_any (HOWN.out.kept (grown_of_below (HA.out (.cells #[.int .i64 ev.f0, .int .i64 ev.f1.f0, .int .i64 ev.f1.f1, .int .i64 ev.f1.f2, .int .i64 ev.f1.f3, .bool ev.f1.f4, .bool ev.f1.f5, .int .i64 ev.f2, .int .i64 ev.f3] 68)) none) (by simp)) ev.f3 HWF.out
                have HT0 := Lib.hid hT0; clear hT0
                by_cases hpos : 0 < ev.f3
                · cases s with
                  | true =>
                    go_wp2
                    go_ret
                    exact ⟨false, rfl, HBW.out.trans ((HA.out _).mono HBW.out.size), fun h => by cases h⟩
                  | false =>
                    by_cases hself : ev.f2 = ev.f3
                    · have hsb : (ev.f2 == ev.f3) = true := by simp [hself]
                      clear hself
                      go_wp2
                      go_ret
                      exact ⟨false, rfl, HBW.out.trans ((HA.out _).mono HBW.out.size), fun h => by cases h⟩
                    · have hsb : (ev.f2 == ev.f3) = false := by simp [hself]
                      have HSELF := Lib.hid hself; clear hself
                      go_wp2_with fail
                      refine (refWrites_any ⟨ev, 0⟩ _).mono ?_; rintro e w2 ⟨rfl, hb2⟩; obtain ⟨hc2, hf2⟩ := bcell hb2
                      have HB2 := Lib.hid ((HA.out _).trans (hb2.mono (by simp)) : Below wr.heap.size wr w2)
                      have hl2 : wr.heap.size < w2.heap.size := by have := hb2.size; simp at this; omega
                      clear hb2 hs
                      cases hwr : writesB ev.f1
                      · go_wp2
                        go_ret
                        exact ⟨false, rfl, HBW.out.trans (HB2.out.mono HBW.out.size), fun h => by cases h⟩
                      · have HG := Lib.hid (⟨HT0.out, hR0, hI0, fun _ => ⟨HSELF.out, hwr⟩⟩ : GoodEv i ev)
                        have hown9 := (HOWN.out.kept (grown_of_below HB2.out none) (by simp))
                        have HOW9 := Lib.hid hown9; clear hown9
                        go_wp2_with (at_mapUpdate; go_must (refine wpList_mapUpdate_own _ rfl _ _ _ 73 rfl 3 4 (int_keyed Try.underlying3) Try.underlying73 _ w.heap.size n D rfl HOW9.out hnmax _ _ _ rfl rfl (keyOf_int_mk Try.underlying3 HWF.out) _ [] (plainElem_bool Try.underlying4 true) ?_); intro w9 hown8 hg9; have HOWN9 := Lib.hid hown8; have HB9 := Lib.hid ((HBW.out.trans (HB2.out.mono HBW.out.size)).grown hg9 (Nat.le_trans HBW.out.size HB2.out.size) (fun k hk => by injection hk with hk; omega)); clear hown8 hg9)
                        go_roundw
                        case rel => exact ⟨k + 1, by go_num, by omega, n + 1, _, HOWN9.out, by omega, HB9.out, HPRE.out, fun e he => by
                          rcases take_mem he with he | he
                          · exact HPR2.out e he
                          · rw [HE.out] at he; injection he with he; rw [← he]; exact HG.out⟩
                        case measure => simp [intOf]; omega
                · have HG := Lib.hid (⟨HT0.out, hR0, hI0, fun h => absurd h hpos⟩ : GoodEv i ev)
                  clear hs
                  have hown9 := (HOWN.out.kept (grown_of_below (HA.out (.cells #[.int .i64 ev.f0, .int .i64 ev.f1.f0, .int .i64 ev.f1.f1, .int .i64 ev.f1.f2, .int .i64 ev.f1.f3, .bool ev.f1.f4, .bool ev.f1.f5, .int .i64 ev.f2, .int .i64 ev.f3] 68)) none) (by simp))
                  have HOW9 := Lib.hid hown9; clear hown9
                  go_wp2_with (at_mapUpdate; go_must (refine wpList_mapUpdate_own _ rfl _ _ _ 73 rfl 3 4 (int_keyed Try.underlying3) Try.underlying73 _ w.heap.size n D rfl HOW9.out hnmax _ _ _ rfl rfl (keyOf_int_mk Try.underlying3 HWF.out) _ [] (plainElem_bool Try.underlying4 true) ?_); intro w9 hown8 hg9; have HOWN9 := Lib.hid hown8; have HB9 := Lib.hid ((HBW.out.trans ((HA.out (.cells #[.int .i64 ev.f0, .int .i64 ev.f1.f0, .int .i64 ev.f1.f1, .int .i64 ev.f1.f2, .int .i64 ev.f1.f3, .bool ev.f1.f4, .bool ev.f1.f5, .int .i64 ev.f2, .int .i64 ev.f3] 68)).mono HBW.out.size)).grown hg9 (Nat.le_trans HBW.out.size (HA.out (.cells #[.int .i64 ev.f0, .int .i64 ev.f1.f0, .int .i64 ev.f1.f1, .int .i64 ev.f1.f2, .int .i64 ev.f1.f3, .bool ev.f1.f4, .bool ev.f1.f5, .int .i64 ev.f2, .int .i64 ev.f3] 68)).size) (fun k hk => by injection hk with hk; omega)); clear hown8 hg9)
                  go_roundw
                  case rel => exact ⟨k + 1, by go_num, by omega, n + 1, _, HOWN9.out, by omega, HB9.out, HPRE.out, fun e he => by
                    rcases take_mem he with he | he
                    · exact HPR2.out e he
                    · rw [HE.out] at he; injection he with he; rw [← he]; exact HG.out⟩
                  case measure => simp [intOf]; omega
              · have HT0 := Lib.hid hT0; clear hT0
                go_wp2
                go_ret
                exact ⟨false, rfl, HBW.out.trans ((HA.out _).mono HBW.out.size), fun h => by cases h⟩
            · have HT0 := Lib.hid hT0; clear hT0
              go_wp2
              go_ret
              exact ⟨false, rfl, HBW.out.trans ((HA.out _).mono HBW.out.size), fun h => by cases h⟩
          · have hTb : (ev.f0 != (i : Int)) = true := by simp [hT0]
            clear hT0
            go_wp2
            go_ret
            exact ⟨false, rfl, HBW.out.trans ((HA.out _).mono HBW.out.size), fun h => by cases h⟩
        · obtain rfl : k = row.length := by omega
          go_wp2
          go_roundw
          case rel => exact ⟨i + 1, by go_num, by omega, n, D, HOWN.out, by rw [HSUM.out]; exact hn, HBW.out, fun t l ht hl e he => by
            by_cases hti : t = i
            · subst hti
              rw [HRO.out] at hl; injection hl with hl; subst hl
              exact HPR2.out e (by rw [List.take_length]; exact he)
            · exact HPRE.out t l (by omega) hl e he⟩
          case measure => simp [intOf]; omega
    · obtain rfl : i = run.length := by omega
      go_wp2
      go_ret
      exact ⟨true, rfl, HB.out, fun _ t l hl e he => HPRE.out t l (List.getElem?_eq_some_iff.1 hl).1 hl e he⟩
end Go.Proofs.Ytfeempgoejnfdaa.Ord

/- The reference's Good once more: where it returns true no two events have one Id. At most a million events, whose Ids are 64-bit numbers. -/
import Derived.Test.YtfeempgoejnfdaaO11
import Derived.Maps.OwnSet
namespace Go.Proofs.Ytfeempgoejnfdaa.Ord
open Go.RowKit Go.Maps Go.Proofs.YtfeempgoejnfdaaW.PrintWords Go.Proofs.YtfeempgoejnfdaaW.PrintLast Go.Proofs.YtfeempgoejnfdaaW.PrintMore
set_option linter.unusedVariables false
set_option linter.unusedSimpArgs false
def SeenAt (D : DataW Unit) (pre : List S68) : Prop := ∀ x : Int, D.atKey (.int .i64 x) (.lit (.bool false)) = .lit (.bool (pre.any fun e => e.f3 == x))
def OneId (pre : List S68) : Prop := pre.Pairwise fun a b => 0 < a.f3 → a.f3 ≠ b.f3
theorem seenAt_nil : SeenAt (.map []) [] := fun x => rfl
theorem seenAt_put {D : DataW Unit} {pre : List S68} (h : SeenAt D pre) (hm : IsMap D) (e : S68) : SeenAt (D.put (.int .i64 e.f3) (.lit (.bool true))) (pre ++ [e]) := by
  intro x
  rw [List.any_append]
  by_cases hx : x = e.f3
  · subst hx
    rw [atKey_put_same hm (by simp [WideAt.IsKeyLit])]
    simp
  · rw [atKey_put_other (by simp [hx]), h x]
    have : (e.f3 == x) = false := by simp; exact fun h => hx h.symm
    simp [this]
theorem seen_is {w : World} {b n : Nat} {D : DataW Unit} {pre : List S68} (h : w.ownsMap Try.prog 3 (plainElem Try.prog 4) b n D) (hS : SeenAt D pre) (x : Int) (hw : (Lit.int .i64 x).wf = true) :
    (Instr.lookup 73 (.map (some b)) (.int .i64 x) false).run Try.prog w = .ok (.bool (pre.any fun e => e.f3 == x)) w := by
  obtain ⟨v, ps, hrun, hv⟩ := h.lookup (int_keyed Try.underlying3) Try.underlying73 (zero4 w) (plainElem_bool Try.underlying4 false) (keyOf_int_mk Try.underlying3 hw)
  rw [hS x] at hv
  simp only [plainElem, Try.underlying4] at hv
  split at hv
  · rename_i hb
    simp only [Option.some.injEq, Prod.mk.injEq, DataW.lit.injEq, Lit.bool.injEq] at hv
    rw [hrun, hv.1]
  all_goals first | (simp at hv; done) | (rename_i hb; simp at hb; done) | skip
theorem oneId_snoc {pre : List S68} (h : OneId pre) (e : S68) (hs : 0 < e.f3 → (pre.any fun a => a.f3 == e.f3) = false) : OneId (pre ++ [e]) := by
  rw [OneId, List.pairwise_append]
  refine ⟨h, List.pairwise_singleton _ _, fun a ha b hb hpos he => ?_⟩
  rw [List.mem_singleton] at hb
  subst hb
  have := hs (by omega)
  rw [List.any_eq_false] at this
  exact this a ha (by simp [he])
def Good2Gives (run : List (List S68)) (w : World) (e : Ending) (w' : World) : Prop := ∃ b : Bool, e = .returned (.bool b) ∧ Below w.heap.size w w' ∧ (b = true → GoodP run ∧ OneId run.flatten)
def GoodAt2 (run : List (List S68)) (w : World) (i : Nat) (wr : World) : Prop :=
  ∃ (n : Nat) (D : DataW Unit), wr.ownsMap Try.prog 3 (plainElem Try.prog 4) w.heap.size n D ∧ n ≤ ((run.take i).map List.length).sum ∧ Below w.heap.size w wr ∧ (∀ (t : Nat) (l : List S68), t < i → run[t]? = some l → ∀ e, e ∈ l → GoodEv t e) ∧ SeenAt D (run.take i).flatten ∧ OneId (run.take i).flatten
set_option maxRecDepth 100000 in
set_option maxHeartbeats 2000000 in
theorem good2_any (run : List (List S68)) (A : Option Addr) (c : Nat) (w : World) (hrun : krun.C w A run.length run) (hT : (run.map List.length).sum ≤ 1000000) (hwf : ∀ l, l ∈ run → ∀ e, e ∈ l → (Lit.int .i64 e.f3).wf = true) :
    Calls Try.prog 15 #[.slice A run.length c] w (Good2Gives run w) := by
  have hmax := hrun.2.1
  have HRUN := Lib.hid hrun; have HWFA := Lib.hid hwf; clear hrun hwf
  have hmm := @run_makeMap Try.prog
  go_enter Try.func15, Try.ntmps15
  go_wp2
  go_loopw [11] (fun x wr => ∃ i : Nat, x = .int .i64 i ∧ i ≤ run.length ∧ GoodAt2 run w i wr) (fun x _ => run.length - (intOf x).toNat)
  case atStart => exact ⟨0, rfl, by omega, 0, .map [], World.ownsMap_made _ _ _ _, by simp, (Below.refl _ _).alloc (Nat.le_refl _) _, fun t l h => by omega, seenAt_nil, List.Pairwise.nil⟩
  case round =>
    obtain ⟨i, rfl, hi, n, D, hown, hn, hB, hpre, hse, hone⟩ := hrel
    have HSE := Lib.hid hse; have HONE := Lib.hid hone; clear hse hone
    have HOWN := Lib.hid hown; have HB := Lib.hid hB; have HPRE := Lib.hid hpre; clear hown hB hpre
    obtain ⟨wo, rfl⟩ : ∃ wo : World, wo = wr := ⟨_, rfl⟩
    by_cases hlt : i < run.length
    · obtain ⟨ad, A0, c0, rfl, hcw, _, hrow⟩ := at_L5 HRUN.out (i : Int) (by omega) (by omega)
      rw [Int.toNat_natCast] at hcw
      have hc := pw_cell_below HB.out hcw
      clear hcw
      have hrd : rd_L5 run (i : Int) = run.getD i [] := by unfold rd_L5; rw [Int.toNat_natCast]
      rw [hrd] at hc hrow
      clear hrd
      have hsum : ((run.take (i + 1)).map List.length).sum = ((run.take i).map List.length).sum + (run.getD i []).length := by
        rw [List.take_succ_eq_append_getElem hlt, List.map_append, List.sum_append]
        simp [List.getD_eq_getElem?_getD, List.getElem?_eq_getElem hlt]
      have htot : ((run.take (i + 1)).map List.length).sum ≤ (run.map List.length).sum := by rw [List.map_take]; exact sum_take_le _ _
      have hro : run[i]? = some (run.getD i []) := by rw [List.getD_eq_getElem?_getD, List.getElem?_eq_getElem hlt]; rfl
      generalize hrowe : run.getD i [] = row at *
      have hrmax := hrow.2.1
      have hmem : row ∈ run := List.mem_of_getElem? hro
      have HROW := Lib.hid hrow; have HRO := Lib.hid hro; have HSUM := Lib.hid hsum; have HMEM := Lib.hid hmem; clear hrowe hrow hro hmem
      have hflat : (run.take (i + 1)).flatten = (run.take i).flatten ++ row := by rw [List.take_succ_eq_append_getElem hlt, List.flatten_append]; simp only [List.flatten_cons, List.flatten_nil, List.append_nil]; congr 1; have h1 := HRO.out; rw [List.getElem?_eq_getElem hlt] at h1; injection h1
      have HFLAT := Lib.hid hflat; clear hflat
      have hbnd : ((run.take i).map List.length).sum + row.length ≤ 1000000 := by rw [← hsum]; omega
      clear hsum htot
      generalize ((run.take i).map List.length).sum = S0 at *
      generalize hP0 : (run.take i).flatten = P0 at *
      clear hP0
      go_wp2
      go_loopw [18] (fun x wr => ∃ k : Nat, x = .int .i64 k ∧ k ≤ row.length ∧ ∃ (n : Nat) (D : DataW Unit), wr.ownsMap Try.prog 3 (plainElem Try.prog 4) w.heap.size n D ∧ n ≤ S0 + k ∧ Below w.heap.size w wr ∧ (∀ (t : Nat) (l : List S68), t < i → run[t]? = some l → ∀ e, e ∈ l → GoodEv t e) ∧ (∀ e, e ∈ row.take k → GoodEv i e) ∧ SeenAt D (P0 ++ row.take k) ∧ OneId (P0 ++ row.take k)) (fun x _ => row.length - (intOf x).toNat)
      case atStart => exact ⟨0, rfl, by omega, n, D, HOWN.out, by omega, HB.out, HPRE.out, fun e he => by simp at he, by simpa using HSE.out, by simpa using HONE.out⟩
      case round =>
        obtain ⟨k, rfl, hk, n, D, hown, hn, hB, hpre, hpr2, hse, hone⟩ := hrel
        have HSE2 := Lib.hid hse; have HONE2 := Lib.hid hone; clear hse hone
        have HOWN := Lib.hid hown; have HBW := Lib.hid hB; have HPRE := Lib.hid hpre; have HPR2 := Lib.hid hpr2; clear hown hB hpre hpr2
        by_cases hlt2 : k < row.length
        · obtain ⟨ad2, rfl, g0, g1, g2, g3, g4, g5, g6, g7, g8⟩ := at_T68 (Kd.C_below HROW.out HBW.out) (k : Int) (by omega) (by omega)
          rw [Int.toNat_natCast] at *
          have he : row[k]? = some (rd_T68 row k) := by
            unfold rd_T68; rw [Int.toNat_natCast, List.getD_eq_getElem?_getD, List.getElem?_eq_getElem hlt2]; rfl
          have hwf := HWFA.out row HMEM.out _ (List.mem_of_getElem? he)
          generalize rd_T68 row (k : Int) = ev at *
          have HSN := Lib.hid (show row.take (k + 1) = row.take k ++ [ev] by rw [List.take_succ_eq_append_getElem hlt2]; congr 2; rw [List.getElem?_eq_getElem hlt2] at he; injection he)
          have HPUT := Lib.hid (seenAt_put HSE2.out HOWN.out.isMap ev)
          have HE := Lib.hid he; have HWF := Lib.hid hwf; clear he hwf
          have hnmax : n < maxLen := by unfold maxLen; omega
          have HA := Lib.hid (fun (o : Obj) => ((Below.refl wr.heap.size wr).alloc (Nat.le_refl _) o))
          by_cases hT0 : ev.f0 = (i : Int)
          · have hTb : (ev.f0 != (i : Int)) = false := by simp [hT0]
            by_cases hR0 : 0 ≤ ev.f2
            · by_cases hI0 : 0 ≤ ev.f3
              · have hs := seen_is (HOWN.out.kept (grown_of_below (HA.out (.cells #[.int .i64 ev.f0, .int .i64 ev.f1.f0, .int .i64 ev.f1.f1, .int .i64 ev.f1.f2, .int .i64 ev.f1.f3, .bool ev.f1.f4, .bool ev.f1.f5, .int .i64 ev.f2, .int .i64 ev.f3] 68)) none) (by simp)) HSE2.out ev.f3 HWF.out
                generalize hse : ((P0 ++ row.take k).any fun e => e.f3 == ev.f3) = s at *
                have HSEV := Lib.hid hse; clear hse
                have HT0 := Lib.hid hT0; clear hT0
                by_cases hpos : 0 < ev.f3
                · cases s with
                  | true =>
                    go_wp2
                    go_ret
                    exact ⟨false, rfl, HBW.out.trans ((HA.out _).mono HBW.out.size), fun h => by cases h⟩
                  | false =>
                    by_cases hself : ev.f2 = ev.f3
                    · have hsb : (ev.f2 == ev.f3) = true := by simp [hself]
                      clear hself
                      go_wp2
                      go_ret
                      exact ⟨false, rfl, HBW.out.trans ((HA.out _).mono HBW.out.size), fun h => by cases h⟩
                    · have hsb : (ev.f2 == ev.f3) = false := by simp [hself]
                      have HSELF := Lib.hid hself; clear hself
                      go_wp2_with fail
                      refine (refWrites_any ⟨ev, 0⟩ _).mono ?_; rintro e w2 ⟨rfl, hb2⟩; obtain ⟨hc2, hf2⟩ := bcell hb2
                      have HB2 := Lib.hid ((HA.out _).trans (hb2.mono (by simp)) : Below wr.heap.size wr w2)
                      have hl2 : wr.heap.size < w2.heap.size := by have := hb2.size; simp at this; omega
                      clear hb2 hs
                      cases hwr : writesB ev.f1
                      · go_wp2
                        go_ret
                        exact ⟨false, rfl, HBW.out.trans (HB2.out.mono HBW.out.size), fun h => by cases h⟩
                      · have HG := Lib.hid (⟨HT0.out, hR0, hI0, fun _ => ⟨HSELF.out, hwr⟩⟩ : GoodEv i ev)
                        have hown9 := (HOWN.out.kept (grown_of_below HB2.out none) (by simp))
                        have HOW9 := Lib.hid hown9; clear hown9
                        go_wp2_with (at_mapUpdate; go_must (refine wpList_mapUpdate_own _ rfl _ _ _ 73 rfl 3 4 (int_keyed Try.underlying3) Try.underlying73 _ w.heap.size n D rfl HOW9.out hnmax _ _ _ rfl rfl (keyOf_int_mk Try.underlying3 HWF.out) _ [] (plainElem_bool Try.underlying4 true) ?_); intro w9 hown8 hg9; have HOWN9 := Lib.hid hown8; have HB9 := Lib.hid ((HBW.out.trans (HB2.out.mono HBW.out.size)).grown hg9 (Nat.le_trans HBW.out.size HB2.out.size) (fun k hk => by injection hk with hk; omega)); clear hown8 hg9)
                        go_roundw
                        case rel => exact ⟨k + 1, by go_num, by omega, n + 1, _, HOWN9.out, by omega, HB9.out, HPRE.out, fun e he => by
                          rcases take_mem he with he | he
                          · exact HPR2.out e he
                          · rw [HE.out] at he; injection he with he; rw [← he]; exact HG.out, by rw [HSN.out, ← List.append_assoc]; exact HPUT.out, by rw [HSN.out, ← List.append_assoc]; exact oneId_snoc HONE2.out ev (fun _ => HSEV.out)⟩
                        case measure => simp [intOf]; omega
                · have HG := Lib.hid (⟨HT0.out, hR0, hI0, fun h => absurd h hpos⟩ : GoodEv i ev)
                  clear hs
                  have hown9 := (HOWN.out.kept (grown_of_below (HA.out (.cells #[.int .i64 ev.f0, .int .i64 ev.f1.f0, .int .i64 ev.f1.f1, .int .i64 ev.f1.f2, .int .i64 ev.f1.f3, .bool ev.f1.f4, .bool ev.f1.f5, .int .i64 ev.f2, .int .i64 ev.f3] 68)) none) (by simp))
                  have HOW9 := Lib.hid hown9; clear hown9
                  go_wp2_with (at_mapUpdate; go_must (refine wpList_mapUpdate_own _ rfl _ _ _ 73 rfl 3 4 (int_keyed Try.underlying3) Try.underlying73 _ w.heap.size n D rfl HOW9.out hnmax _ _ _ rfl rfl (keyOf_int_mk Try.underlying3 HWF.out) _ [] (plainElem_bool Try.underlying4 true) ?_); intro w9 hown8 hg9; have HOWN9 := Lib.hid hown8; have HB9 := Lib.hid ((HBW.out.trans ((HA.out (.cells #[.int .i64 ev.f0, .int .i64 ev.f1.f0, .int .i64 ev.f1.f1, .int .i64 ev.f1.f2, .int .i64 ev.f1.f3, .bool ev.f1.f4, .bool ev.f1.f5, .int .i64 ev.f2, .int .i64 ev.f3] 68)).mono HBW.out.size)).grown hg9 (Nat.le_trans HBW.out.size (HA.out (.cells #[.int .i64 ev.f0, .int .i64 ev.f1.f0, .int .i64 ev.f1.f1, .int .i64 ev.f1.f2, .int .i64 ev.f1.f3, .bool ev.f1.f4, .bool ev.f1.f5, .int .i64 ev.f2, .int .i64 ev.f3] 68)).size) (fun k hk => by injection hk with hk; omega)); clear hown8 hg9)
                  go_roundw
                  case rel => exact ⟨k + 1, by go_num, by omega, n + 1, _, HOWN9.out, by omega, HB9.out, HPRE.out, fun e he => by
                    rcases take_mem he with he | he
                    · exact HPR2.out e he
                    · rw [HE.out] at he; injection he with he; rw [← he]; exact HG.out, by rw [HSN.out, ← List.append_assoc]; exact HPUT.out, by rw [HSN.out, ← List.append_assoc]; exact oneId_snoc HONE2.out ev (fun h => absurd h hpos)⟩
                  case measure => simp [intOf]; omega
              · have HT0 := Lib.hid hT0; clear hT0
                go_wp2
                go_ret
                exact ⟨false, rfl, HBW.out.trans ((HA.out _).mono HBW.out.size), fun h => by cases h⟩
            · have HT0 := Lib.hid hT0; clear hT0
              go_wp2
              go_ret
              exact ⟨false, rfl, HBW.out.trans ((HA.out _).mono HBW.out.size), fun h => by cases h⟩
          · have hTb : (ev.f0 != (i : Int)) = true := by simp [hT0]
            clear hT0
            go_wp2
            go_ret
            exact ⟨false, rfl, HBW.out.trans ((HA.out _).mono HBW.out.size), fun h => by cases h⟩
        · obtain rfl : k = row.length := by omega
          go_wp2
          go_roundw
          case rel => exact ⟨i + 1, by go_num, by omega, n, D, HOWN.out, by rw [HSUM.out]; exact hn, HBW.out, fun t l ht hl e he => by
            by_cases hti : t = i
            · subst hti
              rw [HRO.out] at hl; injection hl with hl; subst hl
              exact HPR2.out e (by rw [List.take_length]; exact he)
            · exact HPRE.out t l (by omega) hl e he, by rw [HFLAT.out]; have := HSE2.out; rwa [List.take_length] at this, by rw [HFLAT.out]; have := HONE2.out; rwa [List.take_length] at this⟩
          case measure => simp [intOf]; omega
    · obtain rfl : i = run.length := by omega
      go_wp2
      go_ret
      exact ⟨true, rfl, HB.out, fun _ => ⟨fun t l hl e he => HPRE.out t l (List.getElem?_eq_some_iff.1 hl).1 hl e he, by have := HONE.out; rwa [List.take_length] at this⟩⟩
end Go.Proofs.Ytfeempgoejnfdaa.Ord

/- Run.nodes: the events of a run that read or write and of which a given function holds. At most a million events. -/
import Derived.Test.YtfeempgoejnfdaaO4
namespace Go.Proofs.Ytfeempgoejnfdaa.Ord
open Go.RowKit Go.Proofs.YtfeempgoejnfdaaW.PrintWords Go.Proofs.YtfeempgoejnfdaaW.PrintLast Go.Proofs.YtfeempgoejnfdaaW.PrintMore
set_option linter.unusedVariables false
set_option linter.unusedSimpArgs false
def keepN (p : S54 → Bool) (e : S68) : Bool := (writesB e.f1 || readsB e.f1) && p e.f1
def rowN (p : S54 → Bool) (l : List S68) : List S76 := (l.zipIdx.filter fun q => keepN p q.1).map fun q => ⟨q.1, (q.2 : Int)⟩
def nodesN (p : S54 → Bool) (run : List (List S68)) : List S76 := run.flatMap (rowN p)
theorem rowN_snoc (p : S54 → Bool) (l : List S68) (e : S68) : rowN p (l ++ [e]) = rowN p l ++ if keepN p e then [⟨e, (l.length : Int)⟩] else [] := by
  simp only [rowN, List.zipIdx_append, List.filter_append, List.map_append]
  congr 1
  simp only [List.zipIdx_cons, List.zipIdx_nil, Nat.zero_add, List.filter_cons, List.filter_nil]
  cases keepN p e <;> simp
theorem rowN_len (p : S54 → Bool) (l : List S68) : (rowN p l).length ≤ l.length := by
  have := List.length_filter_le (fun q : S68 × Nat => keepN p q.1) l.zipIdx
  simpa [rowN] using this
theorem nodesN_len (p : S54 → Bool) (run : List (List S68)) : (nodesN p run).length ≤ (run.map List.length).sum := by
  induction run with
  | nil => simp [nodesN]
  | cons l t ih =>
    have := rowN_len p l
    simp only [nodesN, List.flatMap_cons, List.length_append, List.map_cons, List.sum_cons] at *
    omega
/-- What has been collected behind the first i rows and k events of the next one. -/
def preN (p : S54 → Bool) (run : List (List S68)) (i k : Nat) : List S76 := nodesN p (run.take i) ++ rowN p ((run.getD i []).take k)
theorem sum_take_le (l : List Nat) (i : Nat) : (l.take i).sum ≤ l.sum := by
  induction l generalizing i with
  | nil => simp
  | cons a t ih => cases i with
    | zero => simp
    | succ i => simp; exact ih i
theorem preN_len (p : S54 → Bool) (run : List (List S68)) (i k : Nat) (hi : i < run.length) : (preN p run i k).length ≤ (run.map List.length).sum := by
  have h1 := nodesN_len p (run.take i)
  have h2 := rowN_len p ((run.getD i []).take k)
  have h3 : (run.take (i + 1)).map List.length = (run.take i).map List.length ++ [(run.getD i []).length] := by
    rw [List.take_succ_eq_append_getElem hi, List.map_append]
    simp [List.getD_eq_getElem?_getD, List.getElem?_eq_getElem hi]
  have h4 := sum_take_le (run.map List.length) (i + 1)
  rw [← List.map_take, h3, List.sum_append] at h4
  have h5 : ((run.getD i []).take k).length ≤ (run.getD i []).length := by rw [List.length_take]; omega
  simp only [preN, List.length_append]
  simp only [List.sum_cons, List.sum_nil] at h4
  omega
theorem preN_zero (p : S54 → Bool) (run : List (List S68)) (i : Nat) : preN p run i 0 = nodesN p (run.take i) := by simp [preN, rowN]
theorem preN_row (p : S54 → Bool) (run : List (List S68)) (i : Nat) (hi : i < run.length) : preN p run i (run.getD i []).length = nodesN p (run.take (i + 1)) := by
  rw [List.take_succ_eq_append_getElem hi]
  simp only [preN, nodesN, List.flatMap_append, List.getD_eq_getElem?_getD, List.getElem?_eq_getElem hi, Option.getD_some, List.take_length, List.flatMap_cons, List.flatMap_nil, List.append_nil]
theorem preN_succ (p : S54 → Bool) (run : List (List S68)) (i k : Nat) (e : S68) (he : (run.getD i [])[k]? = some e) : preN p run i (k + 1) = preN p run i k ++ if keepN p e then [⟨e, (k : Int)⟩] else [] := by
  obtain ⟨hk, rfl⟩ := List.getElem?_eq_some_iff.1 he
  simp only [preN]
  rw [List.take_succ_eq_append_getElem hk, rowN_snoc, List.append_assoc, List.length_take, Nat.min_eq_left (Nat.le_of_lt hk)]
/-- A function of an act. -/
def ActAt (f : Nat) (p : S54 → Bool) : Prop := (∀ args w, (callFunc f args).run Try.prog w = .ok (.enter f args) w) ∧ ∀ (x : S54) (w : World), Calls Try.prog f #[v54 x] w (Gives (p x) w)
abbrev krun : Kd (List S68) := Kd.slice 68 k68
def NodesGives (l : List S76) (w : World) (e : Ending) (w' : World) : Prop := ∃ v, e = .returned v ∧ Kd.R k76 84 w' w.heap.size (fun _ => True) v l ∧ Below w.heap.size w w'
def NodesAt (p : S54 → Bool) (run : List (List S68)) (w : World) (i k : Nat) (v : Value) (wr : World) : Prop := Kd.R k76 84 wr w.heap.size (fun _ => True) v (preN p run i k) ∧ Below w.heap.size w wr
theorem info84 : (Try.prog.info? 84).map (fun i => (i.zero, i.size, i.bytes)) = some (some (.agg #[.int .i64 0, .int .i64 0, .int .i64 0, .int .i64 0, .int .i64 0, .bool false, .bool false, .int .i64 0, .int .i64 0, .int .i64 0]), 10, 72) := by kernel_rfl
set_option maxHeartbeats 1000000 in
theorem nodes_any (run : List (List S68)) (f : Nat) (p : S54 → Bool) (hf : ActAt f p) (A : Option Addr) (c : Nat) (w : World) (hrun : krun.C w A run.length run) (hT : (run.map List.length).sum ≤ 1000000) (hrl : run.length ≤ 1000000) :
    Calls Try.prog 47 #[.slice A run.length c, fnV f] w (NodesGives (nodesN p run) w) := by
  obtain ⟨eg, hf⟩ := hf
  have HF := Lib.hid hf; have HRUN := Lib.hid hrun; clear hf hrun
  go_enter Try.func47, Try.ntmps47
  go_wp2
  go_loopw [5, 12] (fun v x wr => ∃ i : Nat, x = .int .i64 i ∧ i ≤ run.length ∧ NodesAt p run w i 0 v wr) (fun _ x _ => run.length - (intOf x).toNat)
  case atStart => exact ⟨0, rfl, by omega, by simpa [preN, nodesN, rowN] using Kd.R_nil _ _ _ _ _, Below.refl _ _⟩
  case round =>
    obtain ⟨i, rfl, hi, hR, hB⟩ := hrel
    obtain ⟨wo, rfl⟩ : ∃ wo : World, wo = wr := ⟨_, rfl⟩
    have HR := Lib.hid hR; have HB := Lib.hid hB; clear hR hB
    by_cases hlt : i < run.length
    · obtain ⟨ad, A0, c0, rfl, hcw, _, hrow⟩ := at_L5 HRUN.out (i : Int) (by omega) (by omega)
      rw [Int.toNat_natCast] at hcw
      have hc := pw_cell_below HB.out hcw
      clear hcw
      have hrd : rd_L5 run (i : Int) = run.getD i [] := by unfold rd_L5; rw [Int.toNat_natCast]
      rw [hrd] at hc hrow
      clear hrd
      generalize hrowe : run.getD i [] = row at *
      have hrmax := hrow.2.1
      have HROWE := Lib.hid hrowe; have HROW := Lib.hid hrow; clear hrowe hrow
      go_wp2
      go_loopw [5, 18] (fun v x wr => ∃ k : Nat, x = .int .i64 k ∧ k ≤ row.length ∧ NodesAt p run w i k v wr) (fun _ x _ => row.length - (intOf x).toNat)
      case atStart => exact ⟨0, rfl, by omega, ⟨HR.out, HB.out⟩⟩
      case round =>
        obtain ⟨k, rfl, hk, hR2, hB2⟩ := hrel
        have HR2 := Lib.hid hR2; have HB2 := Lib.hid hB2; clear hR2 hB2
        by_cases hlt2 : k < row.length
        · obtain ⟨ad2, rfl, g0, g1, g2, g3, g4, g5, g6, g7, g8⟩ := at_T68 (Kd.C_below HROW.out HB2.out) (k : Int) (by omega) (by omega)
          rw [Int.toNat_natCast] at *
          have he : (run.getD i [])[k]? = some (rd_T68 row k) := by
            rw [HROWE.out]; unfold rd_T68; rw [Int.toNat_natCast, List.getD_eq_getElem?_getD, List.getElem?_eq_getElem hlt2]; rfl
          have HE := Lib.hid he; clear he
          go_wp2_with fail
          refine (writes_any (rd_T68 row k).f1 _).mono ?_; rintro e w1 ⟨rfl, hb1⟩; obtain ⟨hc1, hf1⟩ := bcell hb1
          have hl1 : wr.heap.size < w1.heap.size := by have := hb1.size; simp at this; omega
          have HB1 := Lib.hid (((Below.refl _ _).alloc (Nat.le_refl _) _).trans (hb1.mono (by simp)) : Below wr.heap.size wr w1); clear hb1
          cases h1 : writesB (rd_T68 row k).f1
          · go_wp2_with fail
            refine (reads_any (rd_T68 row k).f1 _).mono ?_; rintro e w2 ⟨rfl, hb2⟩; obtain ⟨hc2, hf2⟩ := bcell hb2
            have hl2 : wr.heap.size < w2.heap.size := by have := hb2.size; omega
            have HBB := Lib.hid (HB1.out.trans (hb2.mono HB1.out.size)); clear hb2
            cases h2 : readsB (rd_T68 row k).f1
            · go_wp2
              go_roundw
              case rel => exact ⟨k + 1, by go_num, by omega, by rw [preN_succ _ _ _ _ _ HE.out, if_neg (by simp [keepN, h1, h2]), List.append_nil]; exact Kd.R_below HR2.out (HBB.out), HB2.out.trans ((HBB.out).mono HB2.out.size)⟩
              case measure => simp [intOf]; omega
            · go_wp2_with fail
              refine (HF.out (rd_T68 row k).f1 _).mono ?_; rintro e w3 ⟨rfl, hb3⟩; obtain ⟨hc3, hf3⟩ := bcell hb3
              have HB3 := Lib.hid ((HBB.out).trans (hb3.mono (HBB.out).size)); clear hb3
              cases hp : p (rd_T68 row k).f1
              · go_wp2
                go_roundw
                case rel => exact ⟨k + 1, by go_num, by omega, by rw [preN_succ _ _ _ _ _ HE.out, if_neg (by simp [keepN, hp]), List.append_nil]; exact Kd.R_below HR2.out HB3.out, HB2.out.trans (HB3.out.mono HB2.out.size)⟩
                case measure => simp [intOf]; omega
              · have hkp : keepN p (rd_T68 row k) = true := by simp [keepN, hp, h2]
                have HKP := Lib.hid hkp; clear hkp
                go_wp2_with (at_builtin; refine Kd.R_append k76 (w0 := w) w.heap.size rfl _ _ 77 84 (.agg #[.int .i64 0, .int .i64 0, .int .i64 0, .int .i64 0, .int .i64 0, .bool false, .bool false, .int .i64 0, .int .i64 0, .int .i64 0]) 72 rfl Try.underlying77 info84 rfl (by decide) (by decide) _ (preN p run i k) ⟨rd_T68 row k, (k : Int)⟩ (c76 ⟨rd_T68 row k, (k : Int)⟩) (fun _ => True) (fun _ => False) rfl rfl (k76_mkM _ _ _ _) (fun _ h => h.elim) (fun _ _ => trivial) (Kd.R_below HR2.out HB3.out) (HB2.out.trans (HB3.out.mono HB2.out.size)) (Nat.le_trans HB2.out.size HB3.out.size) (by have := preN_len p run i k hlt; omega) ?_; intro v1 w9 hR9 hB9 hg9 _; have HR9 := Lib.hid hR9; have HB9 := Lib.hid hB9; clear hR9 hB9 hg9)
                go_roundw
                case rel => exact ⟨k + 1, by go_num, by omega, by rw [preN_succ _ _ _ _ _ HE.out, if_pos HKP.out]; exact HR9.out, HB9.out⟩
                case measure => simp [intOf]; omega
          · go_wp2_with fail
            refine (HF.out (rd_T68 row k).f1 _).mono ?_; rintro e w4 ⟨rfl, hb4⟩; obtain ⟨hc4, hf4⟩ := bcell hb4
            have HB4 := Lib.hid ((HB1.out).trans (hb4.mono (HB1.out).size)); clear hb4
            cases hp : p (rd_T68 row k).f1
            · go_wp2
              go_roundw
              case rel => exact ⟨k + 1, by go_num, by omega, by rw [preN_succ _ _ _ _ _ HE.out, if_neg (by simp [keepN, hp]), List.append_nil]; exact Kd.R_below HR2.out HB4.out, HB2.out.trans (HB4.out.mono HB2.out.size)⟩
              case measure => simp [intOf]; omega
            · have hkp : keepN p (rd_T68 row k) = true := by simp [keepN, hp, h1]
              have HKP := Lib.hid hkp; clear hkp
              go_wp2_with (at_builtin; refine Kd.R_append k76 (w0 := w) w.heap.size rfl _ _ 77 84 (.agg #[.int .i64 0, .int .i64 0, .int .i64 0, .int .i64 0, .int .i64 0, .bool false, .bool false, .int .i64 0, .int .i64 0, .int .i64 0]) 72 rfl Try.underlying77 info84 rfl (by decide) (by decide) _ (preN p run i k) ⟨rd_T68 row k, (k : Int)⟩ (c76 ⟨rd_T68 row k, (k : Int)⟩) (fun _ => True) (fun _ => False) rfl rfl (k76_mkM _ _ _ _) (fun _ h => h.elim) (fun _ _ => trivial) (Kd.R_below HR2.out HB4.out) (HB2.out.trans (HB4.out.mono HB2.out.size)) (Nat.le_trans HB2.out.size HB4.out.size) (by have := preN_len p run i k hlt; omega) ?_; intro v1 w9 hR9 hB9 hg9 _; have HR9 := Lib.hid hR9; have HB9 := Lib.hid hB9; clear hR9 hB9 hg9)
              go_roundw
              case rel => exact ⟨k + 1, by go_num, by omega, by rw [preN_succ _ _ _ _ _ HE.out, if_pos HKP.out]; exact HR9.out, HB9.out⟩
              case measure => simp [intOf]; omega
        · obtain rfl : k = row.length := by omega
          go_wp2
          go_roundw
          case rel => exact ⟨i + 1, by go_num, by omega, by rw [preN_zero, ← preN_row _ _ _ hlt, HROWE.out]; exact HR2.out, HB2.out⟩
          case measure => simp [intOf]; omega
    · obtain rfl : i = run.length := by omega
      go_wp2
      go_ret
      exact ⟨_, rfl, by have h := HR.out; rw [preN_zero, List.take_length] at h; exact h, HB.out⟩
end Go.Proofs.Ytfeempgoejnfdaa.Ord

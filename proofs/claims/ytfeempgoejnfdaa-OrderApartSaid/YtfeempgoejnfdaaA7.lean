/- The law OrderApart returns true, for every run that reads as data. -/
import Derived.Test.YtfeempgoejnfdaaA6
import Derived.Test.YtfeempgoejnfdaaO14
namespace Go.Proofs.Ytfeempgoejnfdaa.Ord
open Go.RowKit Go.Proofs.YtfeempgoejnfdaaW.PrintWords Go.Proofs.YtfeempgoejnfdaaW.PrintLast Go.Proofs.YtfeempgoejnfdaaW.PrintMore Go.Proofs.Ytfeempgoejnfdaa.Opening
set_option linter.unusedVariables false
set_option linter.unusedSimpArgs false
def EvWf (e : S68) : Prop := (Lit.int .i64 e.f3).wf = true ∧ (Lit.int .i64 e.f1.f1).wf = true
theorem opens54b (N : Nat) : Opens Try.prog (N + 1) 54 k54 (fun x => (Lit.int .i64 x.f1).wf = true) :=
  (opens_struct (fun x : S54 => (x.f0, x.f1, x.f2, x.f3, x.f4, x.f5)) (fun a => ⟨a.1, a.2.1, a.2.2.1, a.2.2.2.1, a.2.2.2.2.1, a.2.2.2.2.2⟩) (fun _ => rfl) Try.underlying54 (by kernel_rfl)
    (opensFs_cons (opens_int Try.underlying3) rfl (by kernel_rfl) (opensFs_cons (opens_int Try.underlying3) rfl (by kernel_rfl) (opensFs_cons (opens_int Try.underlying3) rfl (by kernel_rfl) (opensFs_cons (opens_int Try.underlying3) rfl (by kernel_rfl) (opensFs_cons (opens_bool Try.underlying4) rfl (by kernel_rfl) (opensFs_one (opens_bool Try.underlying4) rfl (by kernel_rfl)))))))).imp fun _ h => h.2.1
theorem opens68b (N : Nat) : Opens Try.prog (N + 2) 68 k68 EvWf :=
  (opens_struct (fun x : S68 => (x.f0, x.f1, x.f2, x.f3)) (fun a => ⟨a.1, a.2.1, a.2.2.1, a.2.2.2⟩) (fun _ => rfl) Try.underlying68 (by kernel_rfl)
    (opensFs_cons (opens_int Try.underlying3) rfl (by kernel_rfl) (opensFs_cons (opens54b N) rfl (by kernel_rfl) (opensFs_cons (opens_int Try.underlying3) rfl (by kernel_rfl) (opensFs_one (opens_int Try.underlying3) rfl (by kernel_rfl)))))).imp fun _ h => ⟨h.2.2.2, h.2.1⟩
theorem opens66b (N : Nat) : Opens Try.prog (N + 3) 66 (Kd.slice 68 k68) (fun l => l.length * 64 ≤ reachBytes ∧ ∀ e, e ∈ l → EvWf e) :=
  opens_slice Try.underlying66 (by kernel_rfl) (by kernel_rfl) (opens68b N)
theorem opens22b (N : Nat) : Opens Try.prog (N + 4) 22 (Kd.slice 66 krun) (fun r => r.length * 24 ≤ reachBytes ∧ ∀ l, l ∈ r → l.length * 64 ≤ reachBytes ∧ ∀ e, e ∈ l → EvWf e) :=
  opens_slice Try.underlying22 (by kernel_rfl) (by kernel_rfl) (opens66b N)
/-- What comes in as a [][]api.Event. -/
theorem open_runb {H : Type} {enc : TypeId × Value → H} {W : World} {v : Value} {d : DataW H} {p : List MemPlace} (h : DataW.Trod enc Try.prog W 0 (fun _ => true) true 22 v d p) (hv : ∃ a len cap, v = .slice a len cap) (hw : ∀ m, m ∈ d.weights Try.prog 22 → m ≤ reachBytes) :
    ∃ (run : List (List S68)) (A : Option Addr) (c : Nat), v = .slice A run.length c ∧ krun.C W A run.length run ∧ (∀ l, l ∈ run → l.length ≤ 1000000000000000) ∧ ∀ l, l ∈ run → ∀ e, e ∈ l → EvWf e := by
  obtain ⟨fuel, hf⟩ := h
  obtain ⟨run, ⟨A, c, hcs, _, hC⟩, _, hq⟩ := opens22b fuel H enc W 0 _ _ fuel _ _ (by omega) hf hw
  obtain ⟨a, len, cap, rfl⟩ := hv
  refine ⟨run, A, c, by simpa [Value.cells] using hcs, hC, fun l hl => ?_, fun l hl => (hq l hl).2⟩
  have h1 := (hq l hl).1
  have : reachBytes = 140737488351232 := rfl
  omega
theorem rowL_mem {p : S54 → Bool} {l : List S68} {x : S76} (h : x ∈ rowN p l) : x.f0 ∈ l ∧ p x.f0.f1 = true := by
  simp only [rowN, List.mem_map, List.mem_filter, keepN, Bool.and_eq_true] at h
  obtain ⟨⟨e, k⟩, ⟨hm, _, hp⟩, rfl⟩ := h
  rw [List.mem_zipIdx_iff_getElem?] at hm
  exact ⟨List.mem_of_getElem? hm, hp⟩
theorem nodesL_mem {p : S54 → Bool} {run : List (List S68)} {x : S76} (h : x ∈ nodesN p run) : ∃ l, l ∈ run ∧ x.f0 ∈ l ∧ p x.f0.f1 = true := by
  simp only [nodesN, List.mem_flatMap] at h
  obtain ⟨l, hl, hx⟩ := h
  exact ⟨l, hl, rowL_mem hx⟩
theorem rowN_sub (p : S54 → Bool) (l : List S68) : ((rowN p l).map (·.f0)).Sublist l := by
  unfold rowN
  rw [List.map_map]
  have h1 : ((l.zipIdx.filter fun q => keepN p q.1).map Prod.fst).Sublist (l.zipIdx.map Prod.fst) := List.Sublist.map _ List.filter_sublist
  rw [List.zipIdx_map_fst] at h1
  exact h1
theorem nodesN_sub (p : S54 → Bool) (run : List (List S68)) : ((nodesN p run).map (·.f0)).Sublist run.flatten := by
  induction run with
  | nil => simp [nodesN]
  | cons a l ih =>
    simp only [nodesN, List.flatMap_cons, List.map_append, List.flatten_cons] at *
    exact (rowN_sub p a).append ih
theorem i64_le {n : Int} (h : (Lit.int .i64 n).wf = true) : n ≤ 9223372036854775807 := by
  simp only [Lit.wf, Bool.and_eq_true, decide_eq_true_eq] at h
  exact h.2
def LockId (run : List (List S68)) : Prop := ∀ l, l ∈ run → ∀ e, e ∈ l → lockB e.f1 = true → e.f3 ≠ 0
theorem lock_ids {run : List (List S68)} (hg : GoodP run) (hw : ∀ l, l ∈ run → ∀ e, e ∈ l → EvWf e) : ∀ x, x ∈ nodesN lockB run → 0 ≤ idN x ∧ idN x ≤ 9223372036854775807 := by
  intro x hx
  obtain ⟨l, hl, he, _⟩ := nodesL_mem hx
  obtain ⟨t, ht⟩ := List.mem_iff_getElem?.1 hl
  exact ⟨(hg t l ht _ he).2.2.1, i64_le (hw l hl _ he).1⟩
theorem lock_ats {run : List (List S68)} (hw : ∀ l, l ∈ run → ∀ e, e ∈ l → EvWf e) : ∀ x, x ∈ nodesN lockB run → (Lit.int .i64 (atN x)).wf = true := by
  intro x hx
  obtain ⟨l, hl, he, _⟩ := nodesL_mem hx
  exact (hw l hl _ he).2
theorem lock_one {run : List (List S68)} (hg : GoodP run) (ho : OneId run.flatten) (hl : LockId run) : (nodesN lockB run).Pairwise (fun x y => idN x ≠ idN y) := by
  have h1 : ((nodesN lockB run).map (·.f0)).Pairwise (fun a b : S68 => 0 < a.f3 → a.f3 ≠ b.f3) := ho.sublist (nodesN_sub lockB run)
  rw [List.pairwise_map] at h1
  refine List.Pairwise.imp_of_mem ?_ h1
  intro a b ha _ hab
  obtain ⟨l, hl', he, hp⟩ := nodesL_mem ha
  obtain ⟨t, ht⟩ := List.mem_iff_getElem?.1 hl'
  have h2 := hl l hl' _ he hp
  have h3 := (hg t l ht _ he).2.2.1
  exact hab (by omega)
set_option maxRecDepth 100000 in
set_option maxHeartbeats 4000000 in
theorem orderApart_any (run : List (List S68)) (A : Option Addr) (c : Nat) (w : World) (hrun : krun.C w A run.length run) (hS : ∀ l, l ∈ run → l.length ≤ 1000000000000000) (hwf : ∀ l, l ∈ run → ∀ e, e ∈ l → EvWf e) :
    Calls Try.prog 11 #[.slice A run.length c] w (Gives true w) := by
  have HRUN := Lib.hid hrun; have HS := Lib.hid hS; have HWF := Lib.hid hwf; clear hrun hS hwf
  go_enter Try.func11, Try.ntmps11
  go_wp2_with fail
  refine (alive_any _).mono ?_; rintro e w1 ⟨rfl, hb1⟩
  have HB1 := Lib.hid hb1; clear hb1
  go_wp2_with fail
  refine (great_any run A c _ (Kd.C_below HRUN.out HB1.out) HS.out).mono ?_; rintro e w2 ⟨rfl, hb2⟩
  have HB2 := Lib.hid (HB1.out.trans (hb2.mono HB1.out.size)); clear hb2
  cases hg : greatB run
  · obtain ⟨hT, hl⟩ := small_of hg
    clear hg
    go_wp2_with fail
    refine (good2_any run A c _ (Kd.C_below HRUN.out HB2.out) hT (fun l hl e he => (HWF.out l hl e he).1)).mono ?_; rintro e w3 ⟨b, rfl, hb3, hgood⟩
    have HB3 := Lib.hid (HB2.out.trans (hb3.mono HB2.out.size)); clear hb3
    cases b
    · go_wp2
      go_ret
      exact ⟨rfl, HB3.out⟩
    · have HG := Lib.hid (hgood rfl); clear hgood
      go_wp2
      go_loopw [18] (fun v wr => ∃ i : Nat, v = .int .i64 i ∧ i ≤ run.length ∧ (∀ (t : Nat) (l : List S68), t < i → run[t]? = some l → ∀ e, e ∈ l → lockB e.f1 = true → e.f3 ≠ 0) ∧ Below w3.heap.size w3 wr) (fun v _ => run.length - (intOf v).toNat)
      case atStart => exact ⟨0, rfl, by omega, fun t l h => by omega, Below.refl _ _⟩
      case round =>
        obtain ⟨i, rfl, hi, hpre, hbw⟩ := hrel
        have HPRE := Lib.hid hpre; have HBW := Lib.hid hbw; clear hpre hbw
        have HBB := Lib.hid (HB3.out.trans (HBW.out.mono HB3.out.size) : Below w.heap.size w wr)
        obtain ⟨wo, rfl⟩ : ∃ wo : World, wo = wr := ⟨_, rfl⟩
        by_cases hlt : i < run.length
        · obtain ⟨ad, A0, c0, rfl, hcw, _, hrow⟩ := at_L5 (Kd.C_below HRUN.out HBB.out) (i : Int) (by omega) (by omega)
          rw [Int.toNat_natCast] at hcw
          have hrd : rd_L5 run (i : Int) = run.getD i [] := by unfold rd_L5; rw [Int.toNat_natCast]
          rw [hrd] at hcw hrow
          clear hrd
          have hro : run[i]? = some (run.getD i []) := by rw [List.getD_eq_getElem?_getD, List.getElem?_eq_getElem hlt]; rfl
          generalize hrowe : run.getD i [] = row at *
          have hrmax := hrow.2.1
          have HROW := Lib.hid hrow; have HRO := Lib.hid hro; clear hrowe hrow hro
          go_wp2
          go_loopw [24] (fun v wr => ∃ k : Nat, v = .int .i64 k ∧ k ≤ row.length ∧ (∀ e, e ∈ row.take k → lockB e.f1 = true → e.f3 ≠ 0) ∧ Below wo.heap.size wo wr) (fun v _ => row.length - (intOf v).toNat)
          case atStart => exact ⟨0, rfl, by omega, fun e he => by simp at he, Below.refl _ _⟩
          case round =>
            obtain ⟨k, rfl, hk, hpr2, hbw⟩ := hrel
            have HPR2 := Lib.hid hpr2; have HBK := Lib.hid hbw; clear hpr2 hbw
            have HBE := Lib.hid (HBB.out.trans (HBK.out.mono HBB.out.size) : Below w.heap.size w wr)
            by_cases hlt2 : k < row.length
            · obtain ⟨ad2, rfl, g0, g1, g2, g3, g4, g5, g6, g7, g8⟩ := at_T68 (Kd.C_below HROW.out HBK.out) (k : Int) (by omega) (by omega)
              rw [Int.toNat_natCast] at *
              have he : row[k]? = some (rd_T68 row k) := by
                unfold rd_T68; rw [Int.toNat_natCast, List.getD_eq_getElem?_getD, List.getElem?_eq_getElem hlt2]; rfl
              generalize rd_T68 row (k : Int) = ev at *
              have HE := Lib.hid he; clear he
              have HLK := Lib.hid (show lockB ev.f1 = (ev.f1.f0 == 5 || ev.f1.f0 == 6) from rfl)
              have HNX := Lib.hid (fun (h : lockB ev.f1 = true → ev.f3 ≠ 0) => (show ∀ e, e ∈ row.take (k + 1) → lockB e.f1 = true → e.f3 ≠ 0 from fun e he => by
                rcases take_mem he with he | he
                · exact HPR2.out e he
                · rw [HE.out] at he; injection he with he; rw [← he]; exact h))
              have HA := Lib.hid ((Below.refl wr.heap.size wr).alloc (Nat.le_refl _) (.cells #[.int .i64 ev.f0, .int .i64 ev.f1.f0, .int .i64 ev.f1.f1, .int .i64 ev.f1.f2, .int .i64 ev.f1.f3, .bool ev.f1.f4, .bool ev.f1.f5, .int .i64 ev.f2, .int .i64 ev.f3] 68))
              cases h0 : (ev.f3 == 0)
              · have h00 : ev.f3 ≠ 0 := by simpa using h0
                cases h5 : (ev.f1.f0 == 5) <;> cases h6 : (ev.f1.f0 == 6)
                all_goals
                  go_wp2
                  go_roundw
                  case rel => exact ⟨k + 1, by go_num, by omega, HNX.out (fun _ => h00), HBK.out.trans (HA.out.mono HBK.out.size)⟩
                  case measure => simp [intOf]; omega
              · cases h5 : (ev.f1.f0 == 5) <;> cases h6 : (ev.f1.f0 == 6)
                case false.false =>
                  go_wp2
                  go_roundw
                  case rel => exact ⟨k + 1, by go_num, by omega, HNX.out (fun h => by rw [HLK.out, h5, h6] at h; cases h), HBK.out.trans (HA.out.mono HBK.out.size)⟩
                  case measure => simp [intOf]; omega
                all_goals
                  go_wp2
                  go_ret
                  exact ⟨rfl, HBE.out.trans (HA.out.mono HBE.out.size)⟩
            · obtain rfl : k = row.length := by omega
              go_wp2
              go_roundw
              case rel => exact ⟨i + 1, by go_num, by omega, fun t l ht hl e he => by
                by_cases hti : t = i
                · subst hti
                  rw [HRO.out] at hl; injection hl with hl; subst hl
                  exact HPR2.out e (by rw [List.take_length]; exact he)
                · exact HPRE.out t l (by omega) hl e he, HBW.out.trans (HBK.out.mono HBW.out.size)⟩
              case measure => simp [intOf]; omega
        · obtain rfl : i = run.length := by omega
          have HLI := Lib.hid (show LockId run from fun l hl e he => by
            obtain ⟨t, ht⟩ := List.mem_iff_getElem?.1 hl
            exact HPRE.out t l (List.getElem?_eq_some_iff.1 ht).1 ht e he)
          have H1 := Lib.hid (lock_ids HG.out.1 HWF.out)
          have H2 := Lib.hid (lock_one HG.out.1 HG.out.2 HLI.out)
          have H3 := Lib.hid (lock_ats HWF.out)
          go_wp2_with fail
          refine (orderApart_walk run A c _ (Kd.C_below HRUN.out HBB.out) hT hl H1.out H2.out H3.out).mono ?_; rintro e w4 ⟨rfl, hb4⟩
          have HB4 := Lib.hid (HBB.out.trans (hb4.mono HBB.out.size)); clear hb4
          go_wp2_with fail
          refine (refApart_any run A c _ (Kd.C_below HRUN.out HB4.out) hT hl).mono ?_; rintro e w5 ⟨rfl, hb5⟩
          have HB5 := Lib.hid (HB4.out.trans (hb5.mono HB4.out.size)); clear hb5
          generalize apartR (nodesN lockB run) = x at *
          have hxx : (x == x) = true := by simp
          go_wp2
          go_ret
          exact ⟨rfl, HB5.out⟩
  · go_wp2
    go_ret
    exact ⟨rfl, HB2.out⟩
end Go.Proofs.Ytfeempgoejnfdaa.Ord

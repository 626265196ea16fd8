/- graph.closed: what it computes of a square matrix, row by row. -/
import Derived.Test.YtfeempgoejnfdaaO6
import Derived.Deep.DeepMust
namespace Go.Proofs.Ytfeempgoejnfdaa.Ord
open Go.RowKit Go.Proofs.YtfeempgoejnfdaaW.PrintWords Go.Proofs.YtfeempgoejnfdaaW.PrintLast Go.Proofs.YtfeempgoejnfdaaW.PrintMore
set_option linter.unusedVariables false
set_option linter.unusedSimpArgs false
abbrev numV (n : Nat) : Value := .int .i64 (n : Int)
def knat : Kd Nat := Kd.scalar numV (fun _ => rfl)
/-- One row of the matrix gone through, from its k-th entry on: what is marked, what is to be done. -/
def scanL : List Bool → Nat → List Bool × List Nat → List Bool × List Nat
  | [], _, s => s
  | is :: t, k, s => if is && !(s.1.getD k false) then scanL t (k + 1) (s.1.set k true, s.2 ++ [k]) else scanL t (k + 1) s
/-- From what is marked and what is to be done to all that is marked in the end. -/
def bfs (rows : List (List Bool)) : Nat → List Bool × List Nat → Option (List Bool)
  | 0, _ => none
  | f + 1, s => match s.2 with
    | [] => some s.1
    | x :: _ => let s' := scanL (rows.getD x []) 0 s; bfs rows f (s'.1, s'.2.drop 1)
/-- Sound: as many columns as rows, each number below that, no more to be done than is marked. -/
def Fit (n : Nat) (s : List Bool × List Nat) : Prop := s.1.length = n ∧ (∀ x, x ∈ s.2 → x < n) ∧ s.2.length ≤ s.1.count true + 1
theorem Fit.len {n : Nat} {s : List Bool × List Nat} (h : Fit n s) : s.2.length ≤ n + 1 := by
  have h1 := List.count_le_length (a := true) (l := s.1)
  have h2 := h.1; have h3 := h.2.2; omega
theorem count_set (l : List Bool) : ∀ (k : Nat), k < l.length → l.getD k false = false → (l.set k true).count true = l.count true + 1 := by
  induction l with
  | nil => intro k h; simp at h
  | cons a t ih =>
    intro k hk hf
    cases k with
    | zero => simp at hf; subst hf; simp
    | succ k =>
      simp at hk hf
      have := ih k hk (by simpa [List.getD_eq_getElem?_getD] using hf)
      simp only [List.set_cons_succ, List.count_cons]
      omega
theorem Fit.mark {n : Nat} {s : List Bool × List Nat} (h : Fit n s) (k : Nat) (hk : k < n) (hf : s.1.getD k false = false) : Fit n (s.1.set k true, s.2 ++ [k]) := by
  obtain ⟨h1, h2, h3⟩ := h
  refine ⟨by simpa using h1, ?_, ?_⟩
  · intro x hx
    rcases List.mem_append.1 hx with hx | hx
    · exact h2 x hx
    · simp at hx; omega
  · have := count_set s.1 k (by omega) hf
    simp; omega
theorem Fit.drop {n : Nat} {s : List Bool × List Nat} (h : Fit n s) : Fit n (s.1, s.2.drop 1) :=
  ⟨h.1, fun x hx => h.2.1 x (List.mem_of_mem_drop hx), by have := h.2.2; simp; omega⟩
theorem scanL_drop (r : List Bool) (k : Nat) (is : Bool) (h : r[k]? = some is) (s : List Bool × List Nat) : scanL (r.drop k) k s = if is && !(s.1.getD k false) then scanL (r.drop (k + 1)) (k + 1) (s.1.set k true, s.2 ++ [k]) else scanL (r.drop (k + 1)) (k + 1) s := by
  obtain ⟨hk, rfl⟩ := List.getElem?_eq_some_iff.1 h
  rw [List.drop_eq_getElem_cons hk]; rfl
def rowC (rows : List (List Bool)) (F i : Nat) : Option (List Bool) := bfs rows F (List.replicate rows.length false, [i])
def ClosedAt (rows out : List (List Bool)) (w : World) (i : Nat) (wr : World) : Prop :=
  i ≤ rows.length ∧ Below w.heap.size w wr ∧ w.heap.size < wr.heap.size ∧ Rows w.heap.size wr w.heap.size rows.length (out.take i)
def ClosedGives (out : List (List Bool)) (n : Nat) (w : World) (e : Ending) (w' : World) : Prop :=
  ∃ g, e = .returned (.slice (some ⟨g, 0, none⟩) n n) ∧ Below w.heap.size w w' ∧ Rows w.heap.size w' g n out
/-- Inside: row i's marks lie behind block wo.heap.size, its cell points there, the rest of wo is as it was. -/
def RowAt (rows : List (List Bool)) (w wo : World) (hs : List Value) (i : Nat) (s : List Bool × List Nat) (v : Value) (wr : World) : Prop :=
  Fit rows.length s ∧ Below w.heap.size w wr ∧ (∀ b, b < wo.heap.size → b ≠ w.heap.size → wr.heap[b]? = wo.heap[b]?) ∧ wo.heap.size + 1 ≤ wr.heap.size ∧ Blk wr wo.heap.size (bools s.1) 4 ∧ Blk wr w.heap.size (hs.set i (.slice (some ⟨wo.heap.size, 0, none⟩) rows.length rows.length)) 90 ∧ Kd.Q knat 3 wr (wo.heap.size + 1) (fun k => wo.heap.size + 1 ≤ k) v s.2
theorem lit_q (w : World) (B i : Nat) (hB : B ≤ w.heap.size) : Kd.Q knat 3 (w.alloc (.cells #[.int .i64 (i : Int)] 3)) B (fun k => B ≤ k) (.slice (some ⟨w.heap.size, 0, none⟩) 1 1) [i] := by
  refine Kd.Q_of_R (Kd.R_of_own ⟨rfl, .inr ⟨w.heap.size, 1, #[.int .i64 (i : Int)], rfl, hB, heap_alloc_new w _, by simp, by simp [maxLen], rfl, rfl⟩⟩ fun k hk => ?_)
  simp [Value.ownBlock] at hk; omega
theorem at_nat {w : World} {A : Option Addr} {n x : Nat} {xs : List Nat} (h : knat.C w A n (x :: xs)) : ∃ ad, A = some ad ∧ w.cell? ad = some (numV x) := by
  obtain ⟨ad, c, e, hl, hK, hc⟩ := Kd.C_get h 0 0 (by omega) (by have := h.1; simp at this; omega)
  have hK' : c = [numV x] := hK
  subst hK'
  have h2 := hc 0 _ rfl
  exact ⟨ad, e, by simpa [Addr.add] using h2⟩
theorem info3' : ∃ i, Try.prog.info? 3 = some i ∧ i.size = 1 := by
  obtain ⟨i, hi, h⟩ := Option.map_eq_some_iff.1 info3
  simp only [Prod.mk.injEq] at h
  exact ⟨i, hi, h.2.1⟩
theorem cut1 (A : Option Addr) (n c : Nat) (hn : 1 ≤ n) : ∀ W : World, (Instr.slice 34 (.slice A n c) (some (.int .i64 1)) none none).run Try.prog W = .ok (.slice (if c = 1 then A else A.map (·.add 1)) (n - 1) (c - 1)) W := by
  obtain ⟨i, hi, hs⟩ := info3'
  exact cut_from (P := Try.prog) 34 3 .i64 Try.underlying34 hi 1 hs A n c 1 (by omega) (by omega)
theorem rowAt_start {rows : List (List Bool)} {w wo : World} {hs : List Value} {i : Nat} (hlt : i < rows.length) (hsz : w.heap.size < wo.heap.size) (hb : Below w.heap.size w wo) (hob : Blk wo w.heap.size hs 90) :
    RowAt rows w wo hs i (List.replicate rows.length false, [i]) (.slice (some ⟨wo.heap.size + 1, 0, none⟩) 1 1) (((wo.setCell ⟨w.heap.size, i, none⟩ (.slice (some ⟨wo.heap.size, 0, none⟩) rows.length rows.length)).alloc (.cells (madeCells #[.bool false] rows.length) 4)).alloc (.cells #[.int .i64 (i : Int)] 3)) := by
  have hz := hb.size
  refine ⟨⟨by simp, by simpa using hlt, by simp⟩, ((hb.setCell (Nat.le_refl _) _).alloc (by simp; omega) _).alloc (by simp; omega) _, fun b hb1 hb2 => ?_, by simp, ?_, ((hob.set _ _).alloc _).alloc _, ?_⟩
  · refine ((((Below.refl _ _).alloc (Nat.le_refl _) _).alloc (by simp) _).block b (by simpa using hb1)).trans ?_
    exact heap_setCell_other _ _ _ _ hb2
  · have h := (Blk.new (wo.setCell ⟨w.heap.size, i, none⟩ (.slice (some ⟨wo.heap.size, 0, none⟩) rows.length rows.length)) (List.replicate rows.length (.bool false)) 4).alloc (.cells #[.int .i64 (i : Int)] 3)
    rw [World.size_setCell, ← madeCells_one] at h
    rw [show bools (List.replicate rows.length false) = List.replicate rows.length (.bool false) from by simp [bools]]
    exact h
  · have h := lit_q ((wo.setCell ⟨w.heap.size, i, none⟩ (.slice (some ⟨wo.heap.size, 0, none⟩) rows.length rows.length)).alloc (.cells (madeCells #[.bool false] rows.length) 4)) (wo.heap.size + 1) i (by simp)
    rw [show ((wo.setCell ⟨w.heap.size, i, none⟩ (.slice (some ⟨wo.heap.size, 0, none⟩) rows.length rows.length)).alloc (.cells (madeCells #[.bool false] rows.length) 4)).heap.size = wo.heap.size + 1 from by simp] at h
    exact h
theorem closedAt_next {rows out : List (List Bool)} {w wo wr : World} {hs : List Value} {i : Nat} {m : List Bool} {q : List Nat} {v : Value} (hlt : i < rows.length) (hsz : w.heap.size < wo.heap.size) (hb : Below w.heap.size w wo)
    (hrows : Rows w.heap.size wo w.heap.size rows.length (out.take i)) (hob : Blk wo w.heap.size hs 90) (hout : out.length = rows.length) (hm : out[i]? = some m) (h : RowAt rows w wo hs i (m, q) v wr) : ClosedAt rows out w (i + 1) wr := by
  obtain ⟨hf, hb2, hold, hsz2, hrow, hcell, _⟩ := h
  have hz := hb.size
  obtain ⟨hi, rfl⟩ := List.getElem?_eq_some_iff.1 hm
  have hl : (out.take i).length = i := by rw [List.length_take]; omega
  refine ⟨by omega, hb2, by omega, ?_⟩
  rw [List.take_succ_eq_append_getElem hi]
  refine hrows.add _ hf.1 (by omega) wo.heap.size (Nat.le_refl _) hz hrow ⟨hs, hob, ?_⟩ hold
  rw [hl]; exact hcell
theorem rowAt_mark {rows : List (List Bool)} {w wo wr w9 : World} {hs : List Value} {i k : Nat} {m : List Bool} {q : List Nat} {v v1 : Value} (hk : k < rows.length) (hsz : w.heap.size < wo.heap.size) (hm : m[k]? = some false) (h : RowAt rows w wo hs i (m, q) v wr)
    (hB : Below (wo.heap.size + 1) (wr.setCell ⟨wo.heap.size, k, none⟩ (.bool true)) w9) (hQ : Kd.Q knat 3 w9 (wo.heap.size + 1) (fun k => wo.heap.size + 1 ≤ k) v1 (q ++ [k])) : RowAt rows w wo hs i (m.set k true, q ++ [k]) v1 w9 := by
  obtain ⟨hf, hb, hold, hsz2, hrow, hcell, _⟩ := h
  have h9 := hB.size
  have hz := hb.size
  simp at h9
  refine ⟨hf.mark k hk (by rw [List.getD_eq_getElem?_getD, hm]; rfl), (hb.setCell (by simp; omega) _).trans (hB.mono (by omega)), fun b hb1 hb2 => ?_, by omega, ?_, ?_, hQ⟩
  · rw [hB.block b (by omega), heap_setCell_other _ _ _ _ (by simp; omega)]; exact hold b hb1 hb2
  · have h1 := (hrow.set k (.bool true)).below hB (by omega)
    rwa [show (bools m).set k (.bool true) = bools (m.set k true) from by simp [bools, List.map_set]] at h1
  · exact (hcell.far ⟨wo.heap.size, k, none⟩ _ (by simp; omega)).below hB (by omega)
set_option maxHeartbeats 1000000 in
theorem closed_any (rows out : List (List Bool)) (hsq : ∀ r, r ∈ rows → r.length = rows.length) (hmax : rows.length ≤ 1000000) (F : Nat) (g : Nat) (w : World) (hG : Grid (fun W => Below w.heap.size w W) g rows.length rows)
    (hout : out.length = rows.length) (hgo : ∀ (i : Nat) (r : List Bool), out[i]? = some r → rowC rows F i = some r) : Calls Try.prog 95 #[.slice (some ⟨g, 0, none⟩) rows.length rows.length] w (ClosedGives out rows.length w) := by
  have hmk81 := make81 rows.length hmax
  have hmk90 := make90 rows.length hmax
  have HG := Lib.hid hG; have HGO := Lib.hid hgo; have HSQ := Lib.hid hsq; have HOUT := Lib.hid hout; clear hG hgo hsq hout
  go_enter Try.func95, Try.ntmps95
  go_wp2
  go_loopw [13] (fun v wr => ∃ i : Nat, v = .int .i64 i ∧ ClosedAt rows out w i wr) (fun v _ => rows.length - (intOf v).toNat)
  case atStart =>
    refine ⟨0, rfl, by omega, (Below.refl _ _).alloc (Nat.le_refl _) _, by simp, _, by rw [madeCells_one]; exact Blk.new _ _ _, by simp, fun j r hj => by simp at hj⟩
  case round =>
    obtain ⟨i, rfl, hi, hbw, hsz, hrows⟩ := hrel
    obtain ⟨wo, rfl⟩ : ∃ wo : World, wo = wr := ⟨_, rfl⟩
    obtain ⟨hs, hob, hol⟩ := hrows.outer
    have HRW := Lib.hid hrows; have HBW := Lib.hid hbw; clear hrows hbw
    by_cases hlt : i < rows.length
    · obtain ⟨vi, hvi⟩ : ∃ x, hs[i]? = some x := ⟨_, List.getElem?_eq_getElem (by omega)⟩
      have hci := hob.cell hvi
      have hfi := hob.free i
      have HOB := Lib.hid hob; have HOL := Lib.hid hol; clear hob hol hvi
      obtain ⟨ro, hro⟩ : ∃ x, out[i]? = some x := ⟨_, List.getElem?_eq_getElem (by have := HOUT.out; omega)⟩
      have hrc := HGO.out i ro hro
      have HRO := Lib.hid hro; have HRC := Lib.hid hrc; clear hro hrc
      have hbase := HBW.out.size
      go_wp2
      go_loopg [5] F (fun f v wr => ∃ s, bfs rows f s = some ro ∧ RowAt rows w wo hs i s v wr)
      case atStart =>
        exact ⟨_, HRC.out, rowAt_start hlt hsz HBW.out HOB.out⟩
      case round =>
        obtain ⟨s, hbf, hfit, hb2, hold, hsz2, hrow, hcell, hq⟩ := hrel
        obtain ⟨A, c, rfl, hlc⟩ := Kd.Q_slice hq
        have hfl := hfit.len
        have HFIT := Lib.hid hfit; have HB2 := Lib.hid hb2; have HOLD := Lib.hid hold; have HROW := Lib.hid hrow; have HCELL := Lib.hid hcell; have HQ := Lib.hid hq; clear hfit hb2 hold hrow hcell hq
        cases gk with
        | zero => simp [bfs] at hbf
        | succ gk =>
        simp only [bfs] at hbf
        obtain ⟨m, q⟩ := s
        cases q with
        | nil =>
          simp only [Option.some.injEq] at hbf
          have HBF := Lib.hid hbf; clear hbf
          go_wp2
          go_roundw
          case rel => exact ⟨i + 1, by go_num, closedAt_next hlt hsz HBW.out HRW.out HOB.out HOUT.out (by rw [HRO.out, ← HBF.out]) ⟨HFIT.out, HB2.out, HOLD.out, hsz2, HROW.out, HCELL.out, HQ.out⟩⟩
          case measure => simp [intOf]; omega
        | cons x q =>
          simp only at hbf
          have hx : x < rows.length := HFIT.out.2.1 x (by simp)
          obtain ⟨r, hr⟩ : ∃ r, rows[x]? = some r := ⟨_, List.getElem?_eq_getElem hx⟩
          have hrl := HSQ.out r (List.mem_of_getElem? hr)
          rw [show rows.getD x [] = r from by rw [List.getD_eq_getElem?_getD, hr]; rfl] at hbf
          obtain ⟨rb, hrc, hbits⟩ := HG.out.row x r hr
          have hrow0 := hrc _ HB2.out
          obtain ⟨aq, rfl, hq0⟩ := at_nat (Kd.Q_reads' HQ.out).2.2
          have HBF := Lib.hid hbf; have HBT := Lib.hid hbits; have HRL := Lib.hid hrl; clear hbf hbits hr hrc
          have hr1 : r.length ≤ rows.length := by rw [hrl]; exact Nat.le_refl _
          have hr2 : rows.length ≤ r.length := by rw [hrl]; exact Nat.le_refl _
          clear hrl
          have hlen : 0 < (x :: q).length := by simp
          generalize (x :: q) = xq at *
          go_wp2
          go_loopw [5, 36] (fun v y wr2 => ∃ (k : Nat) (s2 : List Bool × List Nat), y = .int .i64 k ∧ k ≤ rows.length ∧ scanL (r.drop k) k s2 = scanL r 0 (m, xq) ∧ 1 ≤ s2.2.length ∧ RowAt rows w wo hs i s2 v wr2) (fun _ y _ => rows.length - (intOf y).toNat)
          case atStart => exact ⟨0, (m, xq), rfl, by omega, by simp, hlen, HFIT.out, HB2.out, HOLD.out, hsz2, HROW.out, HCELL.out, HQ.out⟩
          case round =>
            obtain ⟨k, s2, rfl, hk, hsc, hne, hfit, hb2, hold, hsz3, hrow, hcell, hq⟩ := hrel
            obtain ⟨A2, c2, rfl, hlc2⟩ := Kd.Q_slice hq
            have hfl2 := hfit.len
            obtain ⟨m2, q2⟩ := s2
            simp only at hne hlc2 hfl2
            have hcl := hcell.cell (j := i) (List.getElem?_set_self (by rw [HOL.out]; exact hlt))
            by_cases hlt2 : k < rows.length
            · obtain ⟨is, his⟩ : ∃ b, r[k]? = some b := ⟨_, List.getElem?_eq_getElem (by omega)⟩
              obtain ⟨mk, hmk⟩ : ∃ b, m2[k]? = some b := ⟨_, List.getElem?_eq_getElem (by have := hfit.1; simp only at this; omega)⟩
              have hcb := HBT.out _ hb2 k is his
              have hcm := hrow.cell (j := k) (v := .bool mk) (by simp [bools, hmk])
              have hfm := hrow.free k
              rw [scanL_drop r k is his] at hsc
              simp only [List.getD_eq_getElem?_getD, hmk, Option.getD_some] at hsc
              have HFIT2 := Lib.hid hfit; have HB3 := Lib.hid hb2; have HOLD2 := Lib.hid hold; have HROW2 := Lib.hid hrow; have HCELL2 := Lib.hid hcell; have HQ2 := Lib.hid hq; have HMK := Lib.hid hmk; clear hfit hb2 hold hrow hcell hq hmk his
              cases is with
              | false =>
                have HSC := Lib.hid hsc; clear hsc
                go_wp2
                go_roundw
                case rel => exact ⟨k + 1, _, by go_num, by omega, HSC.out, hne, HFIT2.out, HB3.out, HOLD2.out, hsz3, HROW2.out, HCELL2.out, HQ2.out⟩
                case measure => simp [intOf]; omega
              | true =>
                cases mk with
                | true =>
                  have HSC := Lib.hid hsc; clear hsc
                  go_wp2
                  go_roundw
                  case rel => exact ⟨k + 1, _, by go_num, by omega, HSC.out, hne, HFIT2.out, HB3.out, HOLD2.out, hsz3, HROW2.out, HCELL2.out, HQ2.out⟩
                  case measure => simp [intOf]; omega
                | false =>
                  have HSC := Lib.hid hsc; clear hsc
                  go_wp2_with (at_builtin; go_must (refine Kd.Q_append knat (w0 := wr.setCell ⟨wo.heap.size, k, none⟩ (.bool true)) (wo.heap.size + 1) rfl _ _ 34 3 (.int .i64 0) 8 rfl Try.underlying34 info3 rfl (by decide) (by decide) _ q2 k [.int .i64 (k : Int)] (fun k => wo.heap.size + 1 ≤ k) (fun _ => False) rfl (by rw [World.size_setCell]; rfl) rfl (fun _ h => h.elim) (fun b hb => Nat.le_trans (by simpa using hsz3) hb) (Kd.Q_far HQ2.out (fun b hb => by simp; omega) _) (Below.refl _ _) (by simpa using hsz3) (by omega) ?_); intro v1 w9 hQ9 hB9 hg9 hat9)
                  have HNX := Lib.hid (rowAt_mark hlt2 hsz HMK.out ⟨HFIT2.out, HB3.out, HOLD2.out, hsz3, HROW2.out, HCELL2.out, HQ2.out⟩ hB9 hQ9)
                  clear hQ9 hB9 hg9 hat9
                  go_roundw
                  case rel => exact ⟨k + 1, _, by go_num, by omega, HSC.out, by simp, HNX.out⟩
                  case measure => simp [intOf]; omega
            · obtain rfl : k = rows.length := by omega
              rw [List.drop_eq_nil_of_le hr1] at hsc
              have hsc' : (m2, q2) = scanL r 0 (m, xq) := hsc
              rw [← hsc'] at HBF
              obtain ⟨vq, hvq⟩ : ∃ vq, vq = Value.slice (if c2 = 1 then A2 else A2.map (·.add 1)) (q2.length - 1) (c2 - 1) := ⟨_, rfl⟩
              have hcut := cut1 A2 q2.length c2 hne
              rw [← hvq] at hcut
              have hqd : Kd.Q knat 3 wr (wo.heap.size + 1) (fun k => wo.heap.size + 1 ≤ k) vq (q2.drop 1) := by
                rw [hvq]; exact Kd.Q_drop hq hne
              have HFIT2 := Lib.hid hfit; have HB3 := Lib.hid hb2; have HOLD2 := Lib.hid hold; have HROW2 := Lib.hid hrow; have HCELL2 := Lib.hid hcell; have HQ2 := Lib.hid hqd; clear hfit hb2 hold hrow hcell hq hqd hvq hsc hsc'
              go_wp2
              go_roundg gk
              case measure => omega
              case rel => exact ⟨_, HBF.out, HFIT2.out.drop, HB3.out, HOLD2.out, hsz3, HROW2.out, HCELL2.out, HQ2.out⟩
    · obtain rfl : i = rows.length := by omega
      go_wp2
      go_ret
      exact ⟨_, rfl, HBW.out, by have h := HRW.out; rwa [show out.take rows.length = out from by rw [← HOUT.out, List.take_length]] at h⟩
end Go.Proofs.Ytfeempgoejnfdaa.Ord

/- graph.cyclic: what it computes of a square matrix. -/
import Derived.Test.YtfeempgoejnfdaaO5
namespace Go.Proofs.Ytfeempgoejnfdaa.Ord
open Go.RowKit Go.Proofs.YtfeempgoejnfdaaW.PrintWords Go.Proofs.YtfeempgoejnfdaaW.PrintLast Go.Proofs.YtfeempgoejnfdaaW.PrintMore
set_option linter.unusedVariables false
set_option linter.unusedSimpArgs false
theorem make34 (m : Nat) (hm : m ≤ 1000000) : ∀ W : World, (Instr.makeSlice 34 (.int .i64 (m : Int)) (.int .i64 (m : Int))).run Try.prog W = .ok (.slice (some ⟨W.heap.size, 0, none⟩) m m) (W.alloc (.cells (madeCells #[.int .i64 0] m) 3)) := fun W =>
  run_make_row' 34 3 (.int .i64 0) 8 Try.underlying34 info3 rfl .i64 .i64 m (by omega) (by omega) W
/-- The loop of graph.cyclic, from node i on. -/
def goC (rows : List (List Bool)) (F : Nat) : Nat → Nat → List Int → Option Bool
  | 0, _, _ => none
  | f + 1, i, st =>
    if i < rows.length then
      match st[i]? with
      | none => none
      | some x =>
        if x = 0 then
          match goV rows F i 0 (st.set i 1) with
          | none => none
          | some (true, _) => some true
          | some (false, st') => goC rows F f (i + 1) st'
        else goC rows F f (i + 1) st
    else some false
def CycAt (rows : List (List Bool)) (F G : Nat) (b : Bool) (w : World) (i : Nat) (wr : World) : Prop :=
  ∃ (f : Nat) (st : List Int), i ≤ rows.length ∧ st.length = rows.length ∧ goC rows F f i st = some b ∧ Blk wr w.heap.size (ints st) 3 ∧ Below w.heap.size w wr
theorem cyclic_any (rows : List (List Bool)) (hsq : ∀ r, r ∈ rows → r.length = rows.length) (hmax : rows.length ≤ 1000000) (F G : Nat) (g : Nat) (b : Bool) (w : World) (hG : Grid (fun W => Below w.heap.size w W) g rows.length rows)
    (hgo : goC rows F G 0 (List.replicate rows.length 0) = some b) : Calls Try.prog 55 #[.slice (some ⟨g, 0, none⟩) rows.length rows.length] w (Gives b w) := by
  have hmk := make34 rows.length hmax
  have HG := Lib.hid hG; have HGO := Lib.hid hgo; have HSQ := Lib.hid hsq; clear hG hgo hsq
  go_enter Try.func55, Try.ntmps55
  go_wp2
  go_loopw [10] (fun v wr => ∃ i : Nat, v = .int .i64 i ∧ CycAt rows F G b w i wr) (fun v _ => rows.length - (intOf v).toNat)
  case atStart => exact ⟨0, rfl, G, _, by omega, by simp, HGO.out, by rw [madeCells_one, show ints (List.replicate rows.length 0) = List.replicate rows.length (.int .i64 0) from by simp [ints]]; exact Blk.new _ _ _, (Below.refl _ _).alloc (Nat.le_refl _) _⟩
  case round =>
    obtain ⟨i, rfl, f, st, hi, hst, hgo, hbk, hbw⟩ := hrel
    have HB := Lib.hid hbk; have HK := Lib.hid hbw; have HS := Lib.hid hst; clear hbk hbw hst
    cases f with
    | zero => simp [goC] at hgo
    | succ f =>
    simp only [goC] at hgo
    by_cases hlt : i < rows.length
    · rw [if_pos hlt] at hgo
      obtain ⟨x, hx⟩ : ∃ x, st[i]? = some x := ⟨_, List.getElem?_eq_getElem (by have := HS.out; omega)⟩
      have hcs := HB.out.cell (ints_at hx)
      rw [hx] at hgo
      simp only at hgo
      by_cases h0 : x = 0
      · subst h0
        rw [if_pos rfl] at hgo
        obtain ⟨b2, s2, hrec⟩ : ∃ b2 s2, goV rows F i 0 (st.set i 1) = some (b2, s2) := by
          cases hq : goV rows F i 0 (st.set i 1) with
          | none => rw [hq] at hgo; cases hgo
          | some q => exact ⟨q.1, q.2, rfl⟩
        rw [hrec] at hgo
        have HREC := Lib.hid hrec; have HGO2 := Lib.hid hgo; clear hgo hx hrec
        go_wp2_with fail
        refine (visit_any rows HSQ.out hmax F g w.heap.size i st s2 b2 wr hlt HS.out (HG.out.imp fun W hW => ?_) HB.out HREC.out).mono ?_
        · exact ⟨hW.os.trans HK.out.os, hW.tape.trans HK.out.tape, hW.output.trans HK.out.output, Nat.le_trans HK.out.size hW.size, fun b hb => (hW.block b (Nat.lt_of_lt_of_le hb HK.out.size) (by omega)).trans (HK.out.block b hb)⟩
        rintro e w1 ⟨rfl, hb1, hk1⟩
        have HB1 := Lib.hid hb1
        have HK1 := Lib.hid (⟨hk1.os.trans HK.out.os, hk1.tape.trans HK.out.tape, hk1.output.trans HK.out.output, Nat.le_trans HK.out.size hk1.size, fun b hb => (hk1.block b (Nat.lt_of_lt_of_le hb HK.out.size) (by omega)).trans (HK.out.block b hb)⟩ : Below w.heap.size w w1)
        clear hb1 hk1
        cases b2 with
        | true =>
          go_wp2
          go_ret
          exact ⟨ret_bool (by have h := HGO2.out; injection h), HK1.out⟩
        | false =>
          go_wp2
          go_roundw
          case rel => exact ⟨i + 1, by go_num, f, s2, by omega, by rw [goV_len _ _ _ _ _ _ HREC.out]; simpa using HS.out, HGO2.out, HB1.out, HK1.out⟩
          case measure => simp [intOf]; omega
      · rw [if_neg h0] at hgo
        have e0 : (x == 0) = false := by simp [h0]
        have HGO2 := Lib.hid hgo; clear hgo hx
        go_wp2
        go_roundw
        case rel => exact ⟨i + 1, by go_num, f, st, by omega, HS.out, HGO2.out, HB.out, HK.out⟩
        case measure => simp [intOf]; omega
    · rw [if_neg hlt] at hgo
      have HGO2 := Lib.hid hgo; clear hgo
      go_wp2
      go_ret
      exact ⟨ret_bool (by have h := HGO2.out; injection h), HK.out⟩
end Go.Proofs.Ytfeempgoejnfdaa.Ord

/- graph.visit and graph.cyclic: what they compute of a matrix. Row lengths and indexes are those of a square matrix. -/
import Derived.Test.YtfeempgoejnfdaaO3
namespace Go.Proofs.Ytfeempgoejnfdaa.Ord
open Go.RowKit Go.Proofs.YtfeempgoejnfdaaW.PrintWords Go.Proofs.YtfeempgoejnfdaaW.PrintLast Go.Proofs.YtfeempgoejnfdaaW.PrintMore
set_option linter.unusedVariables false
set_option linter.unusedSimpArgs false
/-- All old blocks but g are as they were. -/
structure Keep1 (w w' : World) (g : Nat) : Prop where
  os : w'.os = w.os
  tape : w'.tape = w.tape
  output : w'.output = w.output
  size : w.heap.size ≤ w'.heap.size
  block : ∀ b, b < w.heap.size → b ≠ g → w'.heap[b]? = w.heap[b]?
theorem Keep1.refl (w : World) (g : Nat) : Keep1 w w g := ⟨rfl, rfl, rfl, Nat.le_refl _, fun _ _ _ => rfl⟩
theorem Keep1.trans {w w1 w2 : World} {g : Nat} (h : Keep1 w w1 g) (h2 : Keep1 w1 w2 g) : Keep1 w w2 g :=
  ⟨h2.os.trans h.os, h2.tape.trans h.tape, h2.output.trans h.output, Nat.le_trans h.size h2.size, fun b hb hne => (h2.block b (Nat.lt_of_lt_of_le hb h.size) hne).trans (h.block b hb hne)⟩
theorem Keep1.set (w : World) (g j : Nat) (v : Value) : Keep1 w (w.setCell ⟨g, j, none⟩ v) g :=
  ⟨rfl, rfl, rfl, by simp, fun b _ hne => heap_setCell_other _ _ _ _ hne⟩
theorem Keep1.below {w w1 : World} {g : Nat} (h : Below w.heap.size w w1) : Keep1 w w1 g := ⟨h.os, h.tape, h.output, h.size, fun b hb _ => h.block b hb⟩
theorem Keep1.alloc (w : World) (g : Nat) (o : Obj) : Keep1 w (w.alloc o) g := Keep1.below ((Below.refl _ _).alloc (Nat.le_refl _) o)
theorem Keep1.new {w w1 : World} {o : Obj} (h : Keep1 (w.alloc o) w1 w.heap.size) : Below w.heap.size w w1 :=
  ⟨h.os, h.tape, h.output, by have := h.size; simp at this; omega, fun b hb => (h.block b (by simp; omega) (by omega)).trans (((Below.refl w.heap.size w).alloc (Nat.le_refl _) o).block b hb)⟩
/-- A matrix of n columns behind block g, in every world in which P holds. -/
def Grid (P : World → Prop) (g n : Nat) (rows : List (List Bool)) : Prop :=
  ∃ hs : List Value, (∀ W, P W → Blk W g hs 90) ∧ ∀ (j : Nat) (r : List Bool), rows[j]? = some r → r.length = n ∧ ∃ b, hs[j]? = some (Value.slice (some ⟨b, 0, none⟩) n n) ∧ ∀ W, P W → Blk W b (bools r) 4
theorem Grid.imp {P P' : World → Prop} {g n : Nat} {rows : List (List Bool)} (h : Grid P g n rows) (hp : ∀ W, P' W → P W) : Grid P' g n rows := by
  obtain ⟨hs, h1, h2⟩ := h
  refine ⟨hs, fun W hW => h1 W (hp W hW), fun j r hj => ?_⟩
  obtain ⟨hl, b, hb, h3⟩ := h2 j r hj
  exact ⟨hl, b, hb, fun W hW => h3 W (hp W hW)⟩
theorem Grid.row {P : World → Prop} {g n : Nat} {rows : List (List Bool)} (h : Grid P g n rows) (i : Nat) (r : List Bool) (hr : rows[i]? = some r) :
    ∃ b, (∀ W, P W → W.cell? ⟨g, i, none⟩ = some (.slice (some ⟨b, 0, none⟩) n n)) ∧ ∀ W, P W → ∀ (k : Nat) (x : Bool), r[k]? = some x → W.cell? ⟨b, k, none⟩ = some (.bool x) := by
  obtain ⟨hs, h1, h2⟩ := h
  obtain ⟨hl, b, hb, h3⟩ := h2 i r hr
  exact ⟨b, fun W hW => (h1 W hW).cell hb, fun W hW k x hx => (h3 W hW).cell (by simp [bools, hx])⟩
theorem Rows.grid {B : Nat} {w : World} {g n : Nat} {rows : List (List Bool)} (h : Rows B w g n rows) : Grid (fun W => Below w.heap.size w W) g n rows := by
  obtain ⟨hs, h1, h2, h3⟩ := h
  refine ⟨hs, fun W hW => h1.move (hW.block _ h1.lt), fun j r hj => ?_⟩
  obtain ⟨hl, b, hb, hB, _⟩ := h3 j r hj
  exact ⟨hl, b, hb, fun W hW => hB.move (hW.block _ hB.lt)⟩
def ints (l : List Int) : List Value := l.map fun x => .int .i64 x
theorem ints_at {l : List Int} {i : Nat} {x : Int} (h : l[i]? = some x) : (ints l)[i]? = some (.int .i64 x) := by simp [ints, h]
theorem ints_set (l : List Int) (i : Nat) (x : Int) : (ints l).set i (.int .i64 x) = ints (l.set i x) := by simp [ints, List.map_set]
/-- The depth first search, from the k-th entry of row i on. -/
def goV (rows : List (List Bool)) : Nat → Nat → Nat → List Int → Option (Bool × List Int)
  | 0, _, _, _ => none
  | f + 1, i, k, st =>
    match (rows.getD i [])[k]? with
    | none => some (false, st.set i 2)
    | some false => goV rows f i (k + 1) st
    | some true =>
      match st[k]? with
      | none => none
      | some x =>
        if x = 1 then some (true, st)
        else if x = 0 then
          match goV rows f k 0 (st.set k 1) with
          | none => none
          | some (true, st') => some (true, st')
          | some (false, st') => goV rows f i (k + 1) st'
        else goV rows f i (k + 1) st
theorem goV_len (rows : List (List Bool)) : ∀ (f i k : Nat) (st : List Int) (r : Bool × List Int), goV rows f i k st = some r → r.2.length = st.length := by
  intro f
  induction f with
  | zero => intro i k st r h; simp [goV] at h
  | succ f ih =>
    intro i k st r h
    simp only [goV] at h
    split at h
    · injection h with h; subst h; simp
    · exact ih _ _ _ _ h
    · split at h
      · cases h
      · split at h
        · injection h with h; subst h; rfl
        · split at h
          · split at h
            · cases h
            · rename_i st' hs
              injection h with h; subst h
              have := ih _ _ _ _ hs; simpa using this
            · rename_i st' hs
              have h1 := ih _ _ _ _ hs
              have h2 := ih _ _ _ _ h
              simp at h1; omega
          · exact ih _ _ _ _ h
def VisGives (b : Bool) (st' : List Int) (sg : Nat) (w : World) (e : Ending) (w' : World) : Prop := e = .returned (.bool b) ∧ Blk w' sg (ints st') 3 ∧ Keep1 w w' sg
/-- At the head of the loop over row i. -/
def VisAt (rows : List (List Bool)) (F n i sg : Nat) (b : Bool) (st' : List Int) (w : World) (k : Nat) (wr : World) : Prop :=
  ∃ (f : Nat) (st : List Int), f ≤ F ∧ k ≤ n ∧ st.length = n ∧ goV rows f i k st = some (b, st') ∧ Blk wr sg (ints st) 3 ∧ Keep1 w wr sg
set_option maxHeartbeats 1000000 in
theorem visit_any (rows : List (List Bool)) (hsq : ∀ r, r ∈ rows → r.length = rows.length) (hmax : rows.length ≤ 1000000) (F : Nat) :
    ∀ (g sg i : Nat) (st st' : List Int) (b : Bool) (w : World), i < rows.length → st.length = rows.length → Grid (fun W => Keep1 w W sg) g rows.length rows → Blk w sg (ints st) 3 → goV rows F i 0 (st.set i 1) = some (b, st') →
    Calls Try.prog 93 #[.slice (some ⟨g, 0, none⟩) rows.length rows.length, .int .i64 (i : Int), .slice (some ⟨sg, 0, none⟩) rows.length rows.length] w (VisGives b st' sg w) := by
  induction F using Nat.strongRecOn with
  | _ F ih =>
  intro g sg i st st' b w hi hst hG hblk hgo
  obtain ⟨r, hr⟩ : ∃ r, rows[i]? = some r := ⟨_, List.getElem?_eq_getElem hi⟩
  have hrl : r.length = rows.length := hsq r (List.mem_of_getElem? hr)
  obtain ⟨x0, hx0⟩ : ∃ x, st[i]? = some x := ⟨_, List.getElem?_eq_getElem (by omega)⟩
  have hc0 := hblk.cell (ints_at hx0)
  have hf0 := hblk.free i
  obtain ⟨rb, hrow, hbits⟩ := hG.row i r hr
  have hrow0 := hrow _ (Keep1.set w sg i (.int .i64 1))
  have HIH := Lib.hid ih; have HG := Lib.hid hG; have HBK := Lib.hid hblk; have HGO := Lib.hid hgo; have HR := Lib.hid hr; have HBT := Lib.hid hbits; have HSQ := Lib.hid hsq
  clear ih hG hblk hgo hr hbits hx0 hsq hrow
  have HST := Lib.hid hst; have HRL := Lib.hid hrl
  clear hst hrl
  go_enter Try.func93, Try.ntmps93
  go_wp2
  go_loopw [17] (fun v wr => ∃ k : Nat, v = .int .i64 k ∧ VisAt rows F rows.length i sg b st' w k wr) (fun v _ => rows.length - (intOf v).toNat)
  case atStart => exact ⟨0, rfl, F, st.set i 1, Nat.le_refl _, by omega, by simpa using HST.out, HGO.out, by rw [← ints_set]; exact HBK.out.set _ _, Keep1.set _ _ _ _⟩
  case round =>
    obtain ⟨k, rfl, f, s, hf, hk, hs, hgo, hbk, hkeep⟩ := hrel
    have HB := Lib.hid hbk; have HK := Lib.hid hkeep; have HS := Lib.hid hs; clear hbk hkeep hs
    cases f with
    | zero => simp [goV] at hgo
    | succ f =>
    simp only [goV] at hgo
    rw [show rows.getD i [] = r from by rw [List.getD_eq_getElem?_getD, HR.out]; rfl] at hgo
    by_cases hlt : k < rows.length
    · obtain ⟨is, his⟩ : ∃ x, r[k]? = some x := ⟨_, List.getElem?_eq_getElem (by have := HRL.out; omega)⟩
      obtain ⟨x, hx⟩ : ∃ x, s[k]? = some x := ⟨_, List.getElem?_eq_getElem (by have := HS.out; omega)⟩
      have hcb := HBT.out wr HK.out k is his
      have hcs := HB.out.cell (ints_at hx)
      rw [his] at hgo
      cases is with
      | false =>
        have HGO2 := Lib.hid hgo; clear hgo his hx
        go_wp2
        go_roundw
        case rel => exact ⟨k + 1, by go_num, f, s, by omega, by omega, HS.out, HGO2.out, HB.out, HK.out⟩
        case measure => simp [intOf]; omega
      | true =>
        rw [hx] at hgo
        simp only at hgo
        by_cases h1 : x = 1
        · subst h1
          rw [if_pos rfl] at hgo
          have HGO2 := Lib.hid hgo; clear hgo his hx
          go_wp2
          go_ret
          have h := HGO2.out
          injection h with h; injection h with ha hb
          exact ⟨ret_bool ha, by rw [← hb]; exact HB.out, HK.out⟩
        · rw [if_neg h1] at hgo
          have e1 : (x == 1) = false := by simp [h1]
          by_cases h0 : x = 0
          · subst h0
            rw [if_pos rfl] at hgo
            obtain ⟨b2, s2, hrec⟩ : ∃ b2 s2, goV rows f k 0 (s.set k 1) = some (b2, s2) := by
              cases hq : goV rows f k 0 (s.set k 1) with
              | none => rw [hq] at hgo; cases hgo
              | some q => exact ⟨q.1, q.2, rfl⟩
            rw [hrec] at hgo
            have HREC := Lib.hid hrec; have HGO2 := Lib.hid hgo; clear hgo his hx hrec h1
            go_wp2_with fail
            refine (HIH.out f (by omega) g sg k s s2 b2 wr hlt HS.out (HG.out.imp fun W hW => HK.out.trans hW) HB.out HREC.out).mono ?_
            rintro e w1 ⟨rfl, hb1, hk1⟩
            have HB1 := Lib.hid hb1; have HK1 := Lib.hid (HK.out.trans hk1); clear hb1 hk1
            cases b2 with
            | true =>
              go_wp2
              go_ret
              have h := HGO2.out
              injection h with h; injection h with ha hb
              exact ⟨ret_bool ha, by rw [← hb]; exact HB1.out, HK1.out⟩
            | false =>
              go_wp2
              go_roundw
              case rel => exact ⟨k + 1, by go_num, f, s2, by omega, by omega, by rw [goV_len _ _ _ _ _ _ HREC.out]; simpa using HS.out, HGO2.out, HB1.out, HK1.out⟩
              case measure => simp [intOf]; omega
          · rw [if_neg h0] at hgo
            have e0 : (x == 0) = false := by simp [h0]
            have HGO2 := Lib.hid hgo; clear hgo his hx
            go_wp2
            go_roundw
            case rel => exact ⟨k + 1, by go_num, f, s, by omega, by omega, HS.out, HGO2.out, HB.out, HK.out⟩
            case measure => simp [intOf]; omega
    · have hnone : r[k]? = none := List.getElem?_eq_none (by have := HRL.out; omega)
      rw [hnone] at hgo
      obtain ⟨xi, hxi⟩ : ∃ x, s[i]? = some x := ⟨_, List.getElem?_eq_getElem (by have := HS.out; omega)⟩
      have hci := HB.out.cell (ints_at hxi)
      have hfi := HB.out.free i
      have HGO2 := Lib.hid hgo; clear hgo hnone hxi
      go_wp2
      go_ret
      have h := HGO2.out
      injection h with h; injection h with ha hb
      exact ⟨ret_bool ha, by rw [← hb, ← ints_set]; exact HB.out.set _ _, HK.out.trans (Keep1.set _ _ _ _)⟩
end Go.Proofs.Ytfeempgoejnfdaa.Ord

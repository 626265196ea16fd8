/- The reference's matrix and closure: a matrix of booleans that is written in place. At most a million rows. -/
import Derived.Test.YtfeempgoejnfdaaR1
import Derived.StillTailTactics
namespace Go.Proofs.Ytfeempgoejnfdaa.Ord
open Go.RowKit Go.Proofs.YtfeempgoejnfdaaW.PrintWords Go.Proofs.YtfeempgoejnfdaaW.PrintLast Go.Proofs.YtfeempgoejnfdaaW.PrintMore
set_option linter.unusedVariables false
set_option linter.unusedSimpArgs false
abbrev hdr (n b : Nat) : Value := .slice (some ⟨b, 0, none⟩) n n
/-- A matrix behind block g, its rows in blocks bs of their own, all from B on. -/
structure Mat (B : Nat) (w : World) (g n : Nat) (bs : List Nat) (rows : List (List Bool)) : Prop where
  outer : Blk w g (bs.map (hdr n)) 90
  len : bs.length = rows.length
  nodup : bs.Nodup
  base : ∀ b, b ∈ bs → b ≠ g ∧ B ≤ b
  gbase : B ≤ g
  row : ∀ (j b : Nat) (r : List Bool), bs[j]? = some b → rows[j]? = some r → Blk w b (bools r) 4 ∧ r.length = n
theorem Mat.move {B : Nat} {w w1 : World} {g n : Nat} {bs : List Nat} {rows : List (List Bool)} (h : Mat B w g n bs rows) (hm : ∀ b, b < w.heap.size → w1.heap[b]? = w.heap[b]?) : Mat B w1 g n bs rows :=
  ⟨h.outer.move (hm _ h.outer.lt), h.len, h.nodup, h.base, h.gbase, fun j b r hb hr => ⟨(h.row j b r hb hr).1.move (hm _ (h.row j b r hb hr).1.lt), (h.row j b r hb hr).2⟩⟩
theorem Mat.below {B : Nat} {w w1 : World} {g n : Nat} {bs : List Nat} {rows : List (List Bool)} (h : Mat B w g n bs rows) (hb : Below w.heap.size w w1) : Mat B w1 g n bs rows := h.move fun b hlt => hb.block b hlt
theorem Mat.at {B : Nat} {w : World} {g n : Nat} {bs : List Nat} {rows : List (List Bool)} (h : Mat B w g n bs rows) (i : Nat) (hi : i < rows.length) : ∃ b r, bs[i]? = some b ∧ rows[i]? = some r ∧ w.cell? ⟨g, i, none⟩ = some (hdr n b) ∧ Blk w b (bools r) 4 ∧ r.length = n := by
  have hl := h.len
  have h1 : bs[i]? = some bs[i] := List.getElem?_eq_getElem (by omega)
  have h2 : rows[i]? = some rows[i] := List.getElem?_eq_getElem hi
  obtain ⟨h3, h4⟩ := h.row i _ _ h1 h2
  exact ⟨_, _, h1, h2, h.outer.cell (by simp [h1]), h3, h4⟩
theorem nodup_inj {l : List Nat} (h : l.Nodup) : ∀ {i j a : Nat}, l[i]? = some a → l[j]? = some a → i = j := by
  induction l with
  | nil => intro i j a hi; simp at hi
  | cons x t ih =>
    intro i j a hi hj
    obtain ⟨h1, h2⟩ := List.nodup_cons.1 h
    cases i with
    | zero =>
      cases j with
      | zero => rfl
      | succ j =>
        simp at hi hj; subst hi
        exact absurd (List.mem_of_getElem? hj) h1
    | succ i =>
      cases j with
      | zero =>
        simp at hi hj; subst hj
        exact absurd (List.mem_of_getElem? hi) h1
      | succ j => simp at hi hj; rw [ih h2 hi hj]
theorem Mat.set {B : Nat} {w : World} {g n : Nat} {bs : List Nat} {rows : List (List Bool)} (h : Mat B w g n bs rows) {i b : Nat} {r : List Bool} (hb : bs[i]? = some b) (hr : rows[i]? = some r) (k : Nat) (v : Bool) :
    Mat B (w.setCell ⟨b, k, none⟩ (.bool v)) g n bs (rows.set i (r.set k v)) := by
  have hbm := List.mem_of_getElem? hb
  refine ⟨h.outer.far _ _ (by simp; exact Ne.symm (h.base b hbm).1), by simpa using h.len, h.nodup, h.base, h.gbase, fun j b' r' hb' hr' => ?_⟩
  have hil := (List.getElem?_eq_some_iff.1 hr).1
  by_cases hij : i = j
  · subst hij
    rw [hb] at hb'; injection hb' with hb'; subst hb'
    rw [List.getElem?_set_self hil] at hr'; injection hr' with hr'; subst hr'
    obtain ⟨h1, h2⟩ := h.row i b r hb hr
    refine ⟨?_, by simpa using h2⟩
    have h3 := h1.set k (.bool v)
    rwa [show (bools r).set k (.bool v) = bools (r.set k v) from by simp [bools, List.map_set]] at h3
  · rw [List.getElem?_set_ne hij] at hr'
    obtain ⟨h1, h2⟩ := h.row j b' r' hb' hr'
    refine ⟨h1.far _ _ ?_, h2⟩
    intro he
    have hbe : b' = b := he
    rw [hbe] at hb'
    exact hij (nodup_inj h.nodup hb hb')
theorem make80 (m : Nat) (hm : m ≤ 1000000) : ∀ W : World, (Instr.makeSlice 80 (.int .i64 (m : Int)) (.int .i64 (m : Int))).run Try.prog W = .ok (.slice (some ⟨W.heap.size, 0, none⟩) m m) (W.alloc (.cells (madeCells #[.slice none 0 0] m) 90)) := fun W =>
  run_make_row' 80 90 (.slice none 0 0) 24 Try.underlying80 info90 rfl .i64 .i64 m (by omega) (by omega) W
/-- The first k rows of n are made. -/
def MakeAt (n : Nat) (w : World) (k : Nat) (wr : World) : Prop :=
  k ≤ n ∧ Below w.heap.size w wr ∧ ∃ bs : List Nat, bs.length = k ∧ bs.Nodup ∧ Blk wr w.heap.size (bs.map (hdr n) ++ List.replicate (n - k) (Value.slice none 0 0)) 90 ∧ ∀ b, b ∈ bs → w.heap.size < b ∧ Blk wr b (bools (List.replicate n false)) 4
def MatGives (n : Nat) (rows : List (List Bool)) (w : World) (e : Ending) (w' : World) : Prop := ∃ g bs, e = .returned (.slice (some ⟨g, 0, none⟩) n n) ∧ Below w.heap.size w w' ∧ Mat w.heap.size w' g n bs rows
theorem makeAt_next {n k : Nat} {w wr : World} (h : MakeAt n w k wr) (hk : k < n) : MakeAt n w (k + 1) ((wr.setCell ⟨w.heap.size, k, none⟩ (hdr n wr.heap.size)).alloc (.cells (madeCells #[.bool false] n) 4)) := by
  obtain ⟨_, hb, bs, hl, hnd, hout, hrows⟩ := h
  have hz := hb.size
  have hol := hout.lt
  refine ⟨by omega, (hb.setCell (Nat.le_refl _) _).alloc (by simp; omega) _, bs ++ [wr.heap.size], by simp [hl], ?_, ?_, fun b hbm => ?_⟩
  · rw [List.nodup_append]
    refine ⟨hnd, by simp, fun a ha b hb' => ?_⟩
    have := (hrows a ha).2.lt
    simp at hb'; omega
  · have h1 := (hout.set k (hdr n wr.heap.size)).alloc (.cells (madeCells #[.bool false] n) 4)
    rwa [show (bs.map (hdr n) ++ List.replicate (n - k) (Value.slice none 0 0)).set k (hdr n wr.heap.size) = (bs ++ [wr.heap.size]).map (hdr n) ++ List.replicate (n - (k + 1)) (Value.slice none 0 0) from by
      rw [List.set_append_right _ _ (by simp [hl])]
      obtain ⟨m, hm⟩ : ∃ m, n - k = m + 1 := ⟨n - k - 1, by omega⟩
      rw [hm, List.replicate_succ, show n - (k + 1) = m from by omega]
      simp [hl]] at h1
  · rcases List.mem_append.1 hbm with hbm | hbm
    · obtain ⟨h1, h2⟩ := hrows b hbm
      exact ⟨h1, (h2.far _ _ (by simp; omega)).alloc _⟩
    · simp at hbm
      subst hbm
      refine ⟨by omega, ?_⟩
      have h1 := Blk.new (wr.setCell ⟨w.heap.size, k, none⟩ (hdr n wr.heap.size)) (List.replicate n (.bool false)) 4
      rw [World.size_setCell, ← madeCells_one] at h1
      rw [show bools (List.replicate n false) = List.replicate n (.bool false) from by simp [bools]]
      exact h1
theorem makeAt_mat {n : Nat} {w wr : World} (h : MakeAt n w n wr) : ∃ bs, Mat w.heap.size wr w.heap.size n bs (List.replicate n (List.replicate n false)) := by
  obtain ⟨_, hb, bs, hl, hnd, hout, hrows⟩ := h
  refine ⟨bs, by simpa using hout, by simp [hl], hnd, fun b hbm => ⟨by have := (hrows b hbm).1; omega, by have := (hrows b hbm).1; omega⟩, Nat.le_refl _, fun j b r hb' hr => ?_⟩
  simp [List.getElem?_replicate] at hr
  obtain ⟨_, rfl⟩ := hr
  exact ⟨(hrows b (List.mem_of_getElem? hb')).2, by simp⟩
theorem matrix_any (n : Nat) (hn : n ≤ 1000000) (w : World) : Calls Try.prog 57 #[.int .i64 (n : Int)] w (MatGives n (List.replicate n (List.replicate n false)) w) := by
  have hm80 := make80 n hn
  have hm90 := make90 n hn
  go_enter Try.func57, Try.ntmps57
  go_wp2
  go_loopw [9] (fun v wr => ∃ k : Nat, v = .int .i64 k ∧ MakeAt n w k wr) (fun v _ => n - (intOf v).toNat)
  case atStart => exact ⟨0, rfl, by omega, (Below.refl _ _).alloc (Nat.le_refl _) _, [], rfl, by simp, by rw [madeCells_one]; exact Blk.new _ _ _, fun b hb => by simp at hb⟩
  case round =>
    obtain ⟨k, rfl, hmk⟩ := hrel
    have hk := hmk.1
    have hz := hmk.2.1.size
    obtain ⟨bs, hl, _, hout, _⟩ := hmk.2.2
    have hsz := hout.lt
    have HM := Lib.hid hmk; clear hmk
    by_cases hlt : k < n
    · have hc := hout.cell (j := k) (v := .slice none 0 0) (by rw [List.getElem?_append_right (by simp; omega)]; simp [hl, List.getElem?_replicate]; omega)
      have hf := hout.free k
      clear hout hl
      go_wp2
      go_roundw
      case rel => exact ⟨k + 1, by go_num, makeAt_next HM.out hlt⟩
      case measure => simp [intOf]; omega
    · obtain rfl : k = n := by omega
      clear hout hl
      go_wp2
      go_ret
      obtain ⟨bs, hM⟩ := makeAt_mat HM.out
      exact ⟨_, bs, rfl, HM.out.2.1, hM⟩
end Go.Proofs.Ytfeempgoejnfdaa.Ord

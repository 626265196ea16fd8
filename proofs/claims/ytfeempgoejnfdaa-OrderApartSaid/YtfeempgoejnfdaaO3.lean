/- order.join: the matrix of a list of nodes and relations. -/
import Derived.Test.YtfeempgoejnfdaaO2
import Derived.Deep.RegionWith
namespace Go.Proofs.Ytfeempgoejnfdaa.Ord
open Go.RowKit Go.Proofs.YtfeempgoejnfdaaW.PrintWords Go.Proofs.YtfeempgoejnfdaaW.PrintLast Go.Proofs.YtfeempgoejnfdaaW.PrintMore
set_option linter.unusedVariables false
set_option linter.unusedSimpArgs false
theorem make90 (m : Nat) (hm : m ≤ 1000000) : ∀ W : World, (Instr.makeSlice 90 (.int .i64 (m : Int)) (.int .i64 (m : Int))).run Try.prog W = .ok (.slice (some ⟨W.heap.size, 0, none⟩) m m) (W.alloc (.cells (madeCells #[.bool false] m) 4)) := fun W =>
  run_make_row' 90 4 (.bool false) 1 Try.underlying90 info4 rfl .i64 .i64 m (by omega) (by omega) W
theorem make81 (m : Nat) (hm : m ≤ 1000000) : ∀ W : World, (Instr.makeSlice 81 (.int .i64 (m : Int)) (.int .i64 (m : Int))).run Try.prog W = .ok (.slice (some ⟨W.heap.size, 0, none⟩) m m) (W.alloc (.cells (madeCells #[.slice none 0 0] m) 90)) := fun W =>
  run_make_row' 81 90 (.slice none 0 0) 24 Try.underlying81 info90 rfl .i64 .i64 m (by omega) (by omega) W
/-- Block g holds just these cells. -/
def Blk (w : World) (g : Nat) (cs : List Value) (t : Nat) : Prop := w.heap[g]? = some (.cells cs.toArray t (0, 0))
theorem Blk.lt {w : World} {g : Nat} {cs : List Value} {t : Nat} (h : Blk w g cs t) : g < w.heap.size := (Array.getElem?_eq_some_iff.1 h).1
theorem Blk.cell {w : World} {g : Nat} {cs : List Value} {t : Nat} (h : Blk w g cs t) {j : Nat} {v : Value} (hj : cs[j]? = some v) : w.cell? ⟨g, j, none⟩ = some v := by
  unfold Blk at h
  simp [World.cell?, h, hj]
theorem Blk.free {w : World} {g : Nat} {cs : List Value} {t : Nat} (h : Blk w g cs t) (j : Nat) : w.frozen? ⟨g, j, none⟩ = false := by
  unfold Blk at h
  simp [World.frozen?, h]
theorem Blk.move {w w1 : World} {g : Nat} {cs : List Value} {t : Nat} (h : Blk w g cs t) (hm : w1.heap[g]? = w.heap[g]?) : Blk w1 g cs t := by
  unfold Blk at *; rw [hm]; exact h
theorem Blk.set {w : World} {g : Nat} {cs : List Value} {t : Nat} (h : Blk w g cs t) (j : Nat) (v : Value) : Blk (w.setCell ⟨g, j, none⟩ v) g (cs.set j v) t := by
  unfold Blk at *
  rw [heap_setCell_same w g j _ t v h]; simp
theorem Blk.far {w : World} {g : Nat} {cs : List Value} {t : Nat} (h : Blk w g cs t) (a : Addr) (v : Value) (hne : g ≠ a.block) : Blk (w.setCell a v) g cs t :=
  h.move (heap_setCell_other w a g v hne)
theorem Blk.alloc {w : World} {g : Nat} {cs : List Value} {t : Nat} (h : Blk w g cs t) (o : Obj) : Blk (w.alloc o) g cs t :=
  h.move (by have := h.lt; exact (Below.refl w.heap.size w |>.alloc (Nat.le_refl _) o).block g this)
theorem Blk.new (w : World) (cs : List Value) (t : Nat) : Blk (w.alloc (.cells cs.toArray t)) w.heap.size cs t := by
  exact heap_alloc_new w _
theorem Blk.below {w w1 : World} {g : Nat} {cs : List Value} {t : Nat} (h : Blk w g cs t) {B : Nat} (hb : Below B w w1) (hg : g < B) : Blk w1 g cs t := h.move (hb.block g hg)
theorem madeCells_one (v : Value) (m : Nat) : madeCells #[v] m = (List.replicate m v).toArray := by
  rw [← toList_madeCells_one, Array.toArray_toList]

def entryJ (list : List S76) (fs : List Nat) (rel : Nat → S76 → S76 → Bool) (i j : Nat) : Bool := (i != j) && fs.any fun f => rel f (rd_T76 list i) (rd_T76 list j)
def rowJ (list : List S76) (fs : List Nat) (rel : Nat → S76 → S76 → Bool) (i m : Nat) : List Bool := (List.range list.length).map fun j => decide (j < m) && entryJ list fs rel i j
/-- The first k rows of a matrix of n columns lie behind block g, in blocks from B on. -/
def Rows (B : Nat) (w : World) (g n : Nat) (rows : List (List Bool)) : Prop :=
  ∃ hs : List Value, Blk w g hs 90 ∧ hs.length = n ∧ ∀ (j : Nat) (r : List Bool), rows[j]? = some r → r.length = n ∧ ∃ b, hs[j]? = some (Value.slice (some ⟨b, 0, none⟩) n n) ∧ Blk w b (bools r) 4 ∧ b ≠ g ∧ B ≤ b
theorem Rows.keep {B : Nat} {w w1 : World} {g n : Nat} {rows : List (List Bool)} (h : Rows B w g n rows) (hm : ∀ b, b < w.heap.size → w1.heap[b]? = w.heap[b]?) : Rows B w1 g n rows := by
  obtain ⟨hs, h1, h2, h3⟩ := h
  refine ⟨hs, h1.move (hm _ h1.lt), h2, fun j r hj => ?_⟩
  obtain ⟨hl, b, hb, hB, hr⟩ := h3 j r hj
  exact ⟨hl, b, hb, hB.move (hm _ hB.lt), hr⟩
theorem Rows.add {B : Nat} {w w1 : World} {g n : Nat} {rows : List (List Bool)} (h : Rows B w g n rows) (r : List Bool) (hr : r.length = n) (hrl : rows.length < n) (b : Nat) (hb : w.heap.size ≤ b) (hBb : B ≤ b) (hrow : Blk w1 b (bools r) 4)
    (hg : ∃ hs : List Value, Blk w g hs 90 ∧ Blk w1 g (hs.set rows.length (Value.slice (some ⟨b, 0, none⟩) n n)) 90) (hm : ∀ b, b < w.heap.size → b ≠ g → w1.heap[b]? = w.heap[b]?) : Rows B w1 g n (rows ++ [r]) := by
  obtain ⟨hs, h1, h2, h3⟩ := h
  obtain ⟨hs', h1', h4⟩ := hg
  have : hs' = hs := by
    unfold Blk at h1 h1'; rw [h1] at h1'; injection h1' with h1'; injection h1' with h1'
    have := congrArg Array.toList h1'; simpa using this.symm
  subst this
  refine ⟨_, h4, by simpa using h2, fun j q hj => ?_⟩
  by_cases hlt : j < rows.length
  · rw [List.getElem?_append_left hlt] at hj
    obtain ⟨hl, b', hb', hB', hne, hB''⟩ := h3 j q hj
    refine ⟨hl, b', by rw [List.getElem?_set_ne (by omega)]; exact hb', hB'.move (hm _ hB'.lt hne), hne, hB''⟩
  · have hj' : j = rows.length := by
      have := (List.getElem?_eq_some_iff.1 hj).1
      simp at this; omega
    subst hj'
    have : r = q := by simpa using hj
    subst this
    refine ⟨hr, b, by rw [List.getElem?_set_self (by omega)], hrow, ?_, hBb⟩
    have := h1.lt; omega
def joinRows (list : List S76) (fs : List Nat) (rel : Nat → S76 → S76 → Bool) (k : Nat) : List (List Bool) := (List.range k).map fun i => rowJ list fs rel i list.length
def JoinAt (list : List S76) (fs : List Nat) (rel : Nat → S76 → S76 → Bool) (w : World) (k : Nat) (wr : World) : Prop :=
  k ≤ list.length ∧ Below w.heap.size w wr ∧ w.heap.size < wr.heap.size ∧ Rows w.heap.size wr w.heap.size list.length (joinRows list fs rel k)
def InAt (list : List S76) (fs : List Nat) (rel : Nat → S76 → S76 → Bool) (w wr : World) (hs : List Value) (k m : Nat) (wr2 : World) : Prop :=
  m ≤ list.length ∧ Below w.heap.size w wr2 ∧ (∀ b, b < wr.heap.size → b ≠ w.heap.size → wr2.heap[b]? = wr.heap[b]?) ∧ wr.heap.size + 1 < wr2.heap.size ∧ Box76 wr2 wr.heap.size (rd_T76 list k) ∧ Blk wr2 (wr.heap.size + 1) (bools (rowJ list fs rel k m)) 4 ∧ Blk wr2 w.heap.size (hs.set k (.slice (some ⟨wr.heap.size + 1, 0, none⟩) list.length list.length)) 90
theorem map_const_range (n : Nat) : List.map ((fun x => Value.bool x) ∘ fun (_ : Nat) => false) (List.range n) = List.replicate n (Value.bool false) := by
  rw [List.eq_replicate_iff]; simp
theorem box_first (wr : World) (a : Addr) (v : Value) (x : S76) (o : Obj) : Box76 (((wr.setCell a v).alloc (.cells (c76 x).toArray 84)).alloc o) wr.heap.size x := by
  have h := (Blk.new (wr.setCell a v) (c76 x) 84).alloc o
  rw [World.size_setCell] at h
  exact h
theorem row_second (wr : World) (a : Addr) (v : Value) (o : Obj) (n : Nat) : Blk (((wr.setCell a v).alloc o).alloc (.cells (madeCells #[.bool false] n) 4)) (wr.heap.size + 1) (List.replicate n (.bool false)) 4 := by
  have h := Blk.new ((wr.setCell a v).alloc o) (List.replicate n (.bool false)) 4
  rw [← madeCells_one, show ((wr.setCell a v).alloc o).heap.size = wr.heap.size + 1 from by simp] at h
  exact h
theorem rowJ_succ (list : List S76) (fs : List Nat) (rel : Nat → S76 → S76 → Bool) (k m : Nat) (hm : m < list.length) : (bools (rowJ list fs rel k m)).set m (.bool (entryJ list fs rel k m)) = bools (rowJ list fs rel k (m + 1)) := by
  apply List.ext_getElem?
  intro j
  simp only [bools, rowJ]
  by_cases hj : j < list.length
  · by_cases hjm : m = j
    · subst hjm
      rw [List.getElem?_set_self (by simpa using hj)]
      simp [hj]
    · rw [List.getElem?_set_ne hjm]
      have : (j < m + 1) ↔ (j < m) := by omega
      simp [hj, this]
  · rw [List.getElem?_eq_none (by simp; omega), List.getElem?_eq_none (by simp; omega)]
theorem join_b1 (w : World) (o : Obj) : Below w.heap.size w (w.alloc o).drew := below_drew ((Below.refl _ _).alloc (Nat.le_refl _) o)
/-- One entry more, in whatever world has changed that cell alone. -/
theorem inAt_step {list : List S76} {fs : List Nat} {rel : Nat → S76 → S76 → Bool} {w wo wr w3 : World} {hs : List Value} {k m : Nat} (h : InAt list fs rel w wo hs k m wr) (hlt : m < list.length) (hwo : w.heap.size < wo.heap.size)
    (hb3 : Below w.heap.size w w3) (hrow : Blk w3 (wo.heap.size + 1) ((bools (rowJ list fs rel k m)).set m (.bool (entryJ list fs rel k m))) 4) (hfar : ∀ b, b < wr.heap.size → b ≠ wo.heap.size + 1 → w3.heap[b]? = wr.heap[b]?) (hz : wr.heap.size ≤ w3.heap.size) : InAt list fs rel w wo hs k (m + 1) w3 := by
  obtain ⟨hm, hb, hold, hsz, hbox, hr, hout⟩ := h
  refine ⟨by omega, hb3, fun b hb1 hb2 => ?_, by omega, ?_, ?_, ?_⟩
  · rw [hfar b (by omega) (by omega)]; exact hold b hb1 hb2
  · unfold Box76 at *
    rw [hfar _ (by omega) (by omega)]; exact hbox
  · rw [← rowJ_succ _ _ _ _ _ hlt]
    exact hrow
  · exact hout.move (hfar _ (by omega) (by omega))
theorem inAt_self {list : List S76} {fs : List Nat} {rel : Nat → S76 → S76 → Bool} {w wo wr : World} {hs : List Value} {k m : Nat} {o : Obj} (h : InAt list fs rel w wo hs k m wr) (hlt : m < list.length) (hwo : w.heap.size < wo.heap.size) (he : k = m) :
    InAt list fs rel w wo hs k (m + 1) ((wr.setCell ⟨wo.heap.size + 1, m, none⟩ (.bool false)).alloc o).drew := by
  have he' : entryJ list fs rel k m = false := by simp [entryJ, he]
  have hb := h.2.1
  have hr := h.2.2.2.2.2.1
  have hz := hb.size
  have hrl := hr.lt
  refine inAt_step h hlt hwo (below_drew ((hb.setCell (by simp; omega) _).alloc (by simp; omega) _)) ?_ ?_ (by simp)
  · rw [he']; exact ((hr.set m (.bool false)).alloc o).move rfl
  · intro b hb1 hb2
    refine (((Below.refl _ _).alloc (Nat.le_refl _) o).block b (by simpa using hb1)).trans ?_
    exact heap_setCell_other _ _ _ _ hb2
theorem inAt_other {list : List S76} {fs : List Nat} {rel : Nat → S76 → S76 → Bool} {w wo wr w1 : World} {hs : List Value} {k m : Nat} {o : Obj} (h : InAt list fs rel w wo hs k m wr) (hlt : m < list.length) (hwo : w.heap.size < wo.heap.size) (he : ¬ k = m)
    (hb1 : Below (wr.alloc o).drew.heap.size (wr.alloc o).drew w1) : InAt list fs rel w wo hs k (m + 1) (w1.setCell ⟨wo.heap.size + 1, m, none⟩ (.bool (fs.any fun f => rel f (rd_T76 list k) (rd_T76 list m)))) := by
  have he' : entryJ list fs rel k m = fs.any fun f => rel f (rd_T76 list k) (rd_T76 list m) := by simp [entryJ, he]
  have hb := h.2.1
  have hr := h.2.2.2.2.2.1
  have hz := hb.size
  have hrl := hr.lt
  have hw1 : Below wr.heap.size wr w1 := (join_b1 wr o).trans (hb1.mono (by simp))
  have hz1 := hw1.size
  refine inAt_step h hlt hwo ((hb.trans (hw1.mono hz)).setCell (by simp; omega) _) ?_ ?_ (by simpa using hz1)
  · rw [he']; exact (hr.below hw1 hrl).set m _
  · intro b hb1 hb2
    exact (heap_setCell_other _ _ _ _ hb2).trans (hw1.block b hb1)
theorem join_b0 (w : World) (o : Obj) {B : Nat} (h : B ≤ w.heap.size) : Below w.heap.size w (w.alloc o).drew := join_b1 w o
theorem join_box (w : World) (x : S76) : Box76 (w.alloc (.cells (c76 x).toArray 84)).drew w.heap.size x := heap_alloc_new w _
theorem Rows.outer {B : Nat} {w : World} {g n : Nat} {rows : List (List Bool)} (h : Rows B w g n rows) : ∃ hs : List Value, Blk w g hs 90 ∧ hs.length = n := by
  obtain ⟨hs, h1, h2, _⟩ := h; exact ⟨hs, h1, h2⟩
theorem joinAt_next {list : List S76} {fs : List Nat} {rel : Nat → S76 → S76 → Bool} {w wo wr : World} {hs : List Value} {k : Nat} (hlt : k < list.length) (hsz : w.heap.size < wo.heap.size)
    (hrows : Rows w.heap.size wo w.heap.size list.length (joinRows list fs rel k)) (hob : Blk wo w.heap.size hs 90) (h : InAt list fs rel w wo hs k list.length wr) : JoinAt list fs rel w (k + 1) wr := by
  obtain ⟨hm, hb, hold, hsz2, hbox, hr, hout⟩ := h
  have hl : (joinRows list fs rel k).length = k := by simp [joinRows]
  refine ⟨by omega, hb, by omega, ?_⟩
  rw [show joinRows list fs rel (k + 1) = joinRows list fs rel k ++ [rowJ list fs rel k list.length] from by simp [joinRows, List.range_succ]]
  refine hrows.add _ (by simp [rowJ]) (by omega) (wo.heap.size + 1) (by omega) (by omega) hr ⟨hs, hob, ?_⟩ hold
  rw [hl]; exact hout
def JoinGives (list : List S76) (fs : List Nat) (rel : Nat → S76 → S76 → Bool) (w : World) (e : Ending) (w' : World) : Prop :=
  ∃ g, e = .returned (.slice (some ⟨g, 0, none⟩) list.length list.length) ∧ Below w.heap.size w w' ∧ Rows w.heap.size w' g list.length (joinRows list fs rel list.length)
set_option maxHeartbeats 1000000 in
theorem join_any (list : List S76) (fs : List Nat) (rel : Nat → S76 → S76 → Bool) (hr : ∀ f, f ∈ fs → RelAt f (rel f)) (A B : Option Addr) (c d : Nat) (w : World) (hl : list.length ≤ 1000000) (hrow : kfn.C w B fs.length fs) (hlist : k76.C w A list.length list) :
    Calls Try.prog 49 #[.slice A list.length c, .slice B fs.length d] w (JoinGives list fs rel w) := by
  have HR := Lib.hid hr; have HC := Lib.hid hrow; have HL := Lib.hid hlist; clear hr hrow hlist
  have hmk81 := make81 list.length hl
  have hmk90 := make90 list.length hl
  go_enter Try.func49, Try.ntmps49
  go_wp2
  go_loopw [15] (fun v wr => ∃ k : Nat, v = .int .i64 k ∧ JoinAt list fs rel w k wr) (fun v _ => list.length - (intOf v).toNat)
  case atStart =>
    refine ⟨0, rfl, by omega, (Below.refl _ _).alloc (Nat.le_refl _) _, by simp, _, by rw [madeCells_one]; exact Blk.new _ _ _, by simp, fun j r hj => by simp [joinRows] at hj⟩
  case round =>
    obtain ⟨k, rfl, hk, hbw, hsz, hrows⟩ := hrel
    obtain ⟨wo, rfl⟩ : ∃ wo : World, wo = wr := ⟨_, rfl⟩
    obtain ⟨hs, hob, hol⟩ := hrows.outer
    have HRW := Lib.hid hrows; clear hrows
    have HBW := Lib.hid hbw; clear hbw
    by_cases hlt : k < list.length
    · obtain ⟨ad, rfl, g0, g1, g2, g3, g4, g5, g6, g7, g8, g9⟩ := at_T76 (Kd.C_below HL.out HBW.out) (k : Int) (by omega) (by omega)
      rw [Int.toNat_natCast] at *
      obtain ⟨vk, hvk⟩ : ∃ vk, hs[k]? = some vk := ⟨_, List.getElem?_eq_getElem (by omega)⟩
      have hck := hob.cell hvk
      clear hvk
      have hfk := hob.free k
      have HOB := Lib.hid hob; clear hob
      have HOL := Lib.hid hol; clear hol
      go_wp2
      clear g0 g1 g2 g3 g4 g5 g6 g7 g8 g9
      have hbase := HBW.out.size
      go_loopw [28] (fun v wr2 => ∃ m : Nat, v = .int .i64 m ∧ InAt list fs rel w wo hs k m wr2) (fun v _ => list.length - (intOf v).toNat)
      case atStart =>
        refine ⟨0, rfl, by omega, ?_, ?_, by simp, ?_, ?_, ?_⟩
        · exact (((HBW.out.setCell (Nat.le_refl _) _).alloc (by simp; omega) _).alloc (by simp; omega) _)
        · intro b hb hne
          refine ((((Below.refl _ _).alloc (Nat.le_refl _) _).alloc (by simp) _).block b (by simpa using hb)).trans ?_
          exact heap_setCell_other _ _ _ _ hne
        · exact box_first wo _ _ _ _
        · rw [show bools (rowJ list fs rel k 0) = List.replicate list.length (.bool false) from by simp [bools, rowJ, map_const_range]]
          exact row_second wo _ _ _ _
        · exact ((HOB.out.set _ _).alloc _).alloc _
      case round =>
        obtain ⟨m, rfl, hm, hb2, hold, hsz2, hbox, hrow, hout⟩ := hrel
        have HB2 := Lib.hid hb2; have HOLD := Lib.hid hold; have HBOX := Lib.hid hbox; have HROW := Lib.hid hrow; have HOUT := Lib.hid hout; clear hb2 hold hbox hrow hout
        by_cases hlt2 : m < list.length
        · obtain ⟨ad', ead, g0, g1, g2, g3, g4, g5, g6, g7, g8, g9⟩ := at_T76 (Kd.C_below HL.out HB2.out) (m : Int) (by omega) (by omega)
          obtain rfl : ad = ad' := by simpa using ead
          rw [Int.toNat_natCast] at *
          clear ead
          have hc1 := HOUT.out.cell (j := k) (v := .slice (some ⟨wo.heap.size + 1, 0, none⟩) list.length list.length) (List.getElem?_set_self (by rw [HOL.out]; exact hlt))
          obtain ⟨vm, hvm⟩ : ∃ vm, (bools (rowJ list fs rel k m))[m]? = some vm := ⟨_, List.getElem?_eq_getElem (by simp [bools, rowJ]; omega)⟩
          have hc2 := HROW.out.cell hvm
          have hf2 := HROW.out.free m
          clear hvm
          by_cases hkm : k = m
          · have hgd : ((k : Int) != (m : Int)) = false := by simp [hkm]
            have hgd' : ((k : Int) == (m : Int)) = true := by simp [hkm]
            have HKM := Lib.hid hkm; clear hkm
            go_wp2
            have hn1 : w.heap.size ≠ wo.heap.size + 1 := by omega
            have hn2 : wo.heap.size + 1 ≠ w.heap.size := by omega
            have hs1 : wo.heap.size < wr.heap.size := by omega
            have hs0 : w.heap.size < wr.heap.size := by omega
            refine wp_region_held_drew (S := (fun w' => w'.cell? ⟨w.heap.size, k, none⟩ = some (.slice (some ⟨wo.heap.size + 1, 0, none⟩) list.length list.length))) (by kernel_rfl) ?_ (fun hHeld => ?_)
            · (try dsimp only); go_keep
            refine wpAnyH_take (i := 0) (oi := { dst := some 33, op := Op.move (Operand.tmp 5), type := 81, pos := "order.go:71", after := #[], guard := none }) (v := ?_) rfl (by kernel_rfl) (by kernel_rfl) (by kernel_rfl) (fun _ _ _ h => h) (Or.inl ⟨by rfl, ?_⟩) (by assumption) ?_
            rotate_left
            · intro w9 hSw; (try dsimp only at hSw); go_simp; try (with_reducible rfl)
            try simp only [Act.put, List.setIfInBounds_toArray, List.set_cons_zero, List.set_cons_succ]
            refine wpAnyH_take (i := 1) (oi := { dst := some 34, op := Op.move (Operand.tmp 6), type := 3, pos := "order.go:71", after := #[], guard := none }) (v := ?_) rfl (by kernel_rfl) (by kernel_rfl) (by kernel_rfl) (fun _ _ _ h => h) (Or.inl ⟨by rfl, ?_⟩) (by assumption) ?_
            rotate_left
            · intro w9 hSw; (try dsimp only at hSw); go_simp; try (with_reducible rfl)
            try simp only [Act.put, List.setIfInBounds_toArray, List.set_cons_zero, List.set_cons_succ]
            refine wpAnyH_take (i := 2) (oi := { dst := some 35, op := Op.indexAddr 81 (Operand.tmp 33) (Operand.tmp 34), type := 0, pos := "order.go:71", after := #[{ on := 0, ground := Ground.data }, { on := 1, ground := Ground.data }], guard := none }) (v := ?_) rfl (by kernel_rfl) (by kernel_rfl) (by kernel_rfl) (fun _ _ _ h => h) (Or.inl ⟨by rfl, ?_⟩) (by assumption) ?_
            rotate_left
            · intro w9 hSw; (try dsimp only at hSw); go_simp; try (with_reducible rfl)
            try simp only [Act.put, List.setIfInBounds_toArray, List.set_cons_zero, List.set_cons_succ]
            refine wpAnyH_take (i := 3) (oi := { dst := some 36, op := Op.load 90 (Operand.tmp 35), type := 90, pos := "order.go:71", after := #[{ on := 2, ground := Ground.data }], guard := none }) (v := ?_) rfl (by kernel_rfl) (by kernel_rfl) (by kernel_rfl) (fun _ _ _ h => h) (Or.inl ⟨by rfl, ?_⟩) (by assumption) ?_
            rotate_left
            · intro w9 hSw; (try dsimp only at hSw); go_simp; try (with_reducible rfl)
            try simp only [Act.put, List.setIfInBounds_toArray, List.set_cons_zero, List.set_cons_succ]
            refine wpAnyH_take (i := 4) (oi := { dst := some 37, op := Op.move (Operand.tmp 8), type := 3, pos := "order.go:71", after := #[], guard := none }) (v := ?_) rfl (by kernel_rfl) (by kernel_rfl) (by kernel_rfl) (fun _ _ _ h => h) (Or.inl ⟨by rfl, ?_⟩) (by assumption) ?_
            rotate_left
            · intro w9 hSw; (try dsimp only at hSw); go_simp; try (with_reducible rfl)
            try simp only [Act.put, List.setIfInBounds_toArray, List.set_cons_zero, List.set_cons_succ]
            refine wpAnyH_take (i := 5) (oi := { dst := some 38, op := Op.move (Operand.tmp 6), type := 3, pos := "order.go:71", after := #[], guard := none }) (v := ?_) rfl (by kernel_rfl) (by kernel_rfl) (by kernel_rfl) (fun _ _ _ h => h) (Or.inl ⟨by rfl, ?_⟩) (by assumption) ?_
            rotate_left
            · intro w9 hSw; (try dsimp only at hSw); go_simp; try (with_reducible rfl)
            try simp only [Act.put, List.setIfInBounds_toArray, List.set_cons_zero, List.set_cons_succ]
            refine wpAnyH_take (i := 6) (oi := { dst := some 39, op := Op.move (Operand.tmp 8), type := 3, pos := "order.go:71", after := #[], guard := none }) (v := ?_) rfl (by kernel_rfl) (by kernel_rfl) (by kernel_rfl) (fun _ _ _ h => h) (Or.inl ⟨by rfl, ?_⟩) (by assumption) ?_
            rotate_left
            · intro w9 hSw; (try dsimp only at hSw); go_simp; try (with_reducible rfl)
            try simp only [Act.put, List.setIfInBounds_toArray, List.set_cons_zero, List.set_cons_succ]
            refine wpAnyH_take (i := 7) (oi := { dst := some 40, op := Op.binOp BinOp.neq 3 (Operand.tmp 38) (Operand.tmp 39) 3, type := 4, pos := "order.go:71", after := #[{ on := 5, ground := Ground.data }, { on := 6, ground := Ground.data }], guard := none }) (v := ?_) rfl (by kernel_rfl) (by kernel_rfl) (by kernel_rfl) (fun _ _ _ h => h) (Or.inl ⟨by rfl, ?_⟩) (by assumption) ?_
            rotate_left
            · intro w9 hSw; (try dsimp only at hSw); go_simp; try (with_reducible rfl)
            try simp only [Act.put, List.setIfInBounds_toArray, List.set_cons_zero, List.set_cons_succ]
            refine wpAnyH_take (i := 8) (oi := { dst := some 41, op := Op.move (Operand.tmp 40), type := 4, pos := "order.go:71", after := #[{ on := 7, ground := Ground.data }], guard := none }) (v := ?_) rfl (by kernel_rfl) (by kernel_rfl) (by kernel_rfl) (fun _ _ _ h => h) (Or.inl ⟨by rfl, ?_⟩) (by assumption) ?_
            rotate_left
            · intro w9 hSw; (try dsimp only at hSw); go_simp; try (with_reducible rfl)
            try simp only [Act.put, List.setIfInBounds_toArray, List.set_cons_zero, List.set_cons_succ]
            refine wpAnyH_take (i := 9) (oi := { dst := some 42, op := Op.move (Operand.tmp 1), type := 147, pos := "order.go:71", after := #[{ on := 8, ground := Ground.guard }], guard := some (8, true) }) (v := undef) rfl (by kernel_rfl) (by kernel_rfl) (by kernel_rfl) (fun _ _ _ h => h) (Or.inr ⟨by rfl, rfl⟩) (by assumption) ?_
            try simp only [Act.put, List.setIfInBounds_toArray, List.set_cons_zero, List.set_cons_succ]
            refine wpAnyH_take (i := 10) (oi := { dst := some 43, op := Op.makeFunc (Fn.func 92) #[] #[Operand.tmp 7, Operand.tmp 9], type := 149, pos := "order.go:71", after := #[{ on := 8, ground := Ground.guard }], guard := some (8, true) }) (v := undef) rfl (by kernel_rfl) (by kernel_rfl) (by kernel_rfl) (fun _ _ _ h => h) (Or.inr ⟨by rfl, rfl⟩) (by assumption) ?_
            try simp only [Act.put, List.setIfInBounds_toArray, List.set_cons_zero, List.set_cons_succ]
            refine wpAnyH_take (i := 11) (oi := { dst := some 44, op := Op.call { callee := Callee.value (Operand.func 91), args := #[Operand.tmp 42, Operand.tmp 43], argTypes := #[147, 149] }, type := 4, pos := "order.go:71", after := #[{ on := 9, ground := Ground.data }, { on := 10, ground := Ground.data }, { on := 8, ground := Ground.chain }, { on := 8, ground := Ground.guard }], guard := some (8, true) }) (v := undef) rfl (by kernel_rfl) (by kernel_rfl) (by kernel_rfl) (fun _ _ _ h => h) (Or.inr ⟨by rfl, rfl⟩) (by assumption) ?_
            try simp only [Act.put, List.setIfInBounds_toArray, List.set_cons_zero, List.set_cons_succ]
            refine wpAnyH_take (i := 12) (oi := { dst := some 45, op := Op.pick (Operand.tmp 41) (Operand.tmp 44) (Operand.const (Value.bool false)), type := 4, pos := "order.go:71", after := #[{ on := 8, ground := Ground.data }, { on := 11, ground := Ground.data }], guard := none }) (v := ?_) rfl (by kernel_rfl) (by kernel_rfl) (by kernel_rfl) (fun _ _ _ h => h) (Or.inl ⟨by rfl, ?_⟩) (by assumption) ?_
            rotate_left
            · intro w9 hSw; (try dsimp only at hSw); go_simp; try (with_reducible rfl)
            try simp only [Act.put, List.setIfInBounds_toArray, List.set_cons_zero, List.set_cons_succ]
            refine wpAnyH_take (i := 13) (oi := { dst := some 46, op := Op.indexAddr 90 (Operand.tmp 36) (Operand.tmp 37), type := 0, pos := "order.go:71", after := #[{ on := 3, ground := Ground.data }, { on := 4, ground := Ground.data }, { on := 0, ground := Ground.phase }, { on := 1, ground := Ground.phase }, { on := 2, ground := Ground.phase }, { on := 3, ground := Ground.phase }, { on := 4, ground := Ground.phase }, { on := 5, ground := Ground.phase }, { on := 6, ground := Ground.phase }, { on := 7, ground := Ground.phase }, { on := 8, ground := Ground.phase }, { on := 9, ground := Ground.phase }, { on := 10, ground := Ground.phase }, { on := 11, ground := Ground.phase }, { on := 12, ground := Ground.phase }], guard := none }) (v := ?_) rfl (by kernel_rfl) (by kernel_rfl) (by kernel_rfl) (fun _ _ _ h => h) (Or.inl ⟨by rfl, ?_⟩) (by assumption) ?_
            rotate_left
            · intro w9 hSw; (try dsimp only at hSw); go_simp; try (with_reducible rfl)
            try simp only [Act.put, List.setIfInBounds_toArray, List.set_cons_zero, List.set_cons_succ]
            refine wpAnyH_ready (rs := [14]) (by kernel_rfl) (by simp) ?_
            refine AllReadyH.cons (o := { dst := none, op := Op.store 4 (Operand.tmp 46) (Operand.tmp 45), type := 0, pos := "order.go:71", after := #[{ on := 13, ground := Ground.data }, { on := 12, ground := Ground.data }, { on := 11, ground := Ground.chain }, { on := 0, ground := Ground.phase }, { on := 1, ground := Ground.phase }, { on := 2, ground := Ground.phase }, { on := 3, ground := Ground.phase }, { on := 4, ground := Ground.phase }, { on := 5, ground := Ground.phase }, { on := 6, ground := Ground.phase }, { on := 7, ground := Ground.phase }, { on := 8, ground := Ground.phase }, { on := 9, ground := Ground.phase }, { on := 10, ground := Ground.phase }, { on := 11, ground := Ground.phase }, { on := 12, ground := Ground.phase }], guard := none }) rfl (fun K hK => ?_) AllReadyH.nil
            go_simp
            refine hK.out _ _ ?_ (fun hHeld2 => ?_)
            · (try dsimp only); go_keep
            clear hK K
            try simp only [Act.put, List.setIfInBounds_toArray, List.set_cons_zero, List.set_cons_succ]
            refine wpAnyH_done (by kernel_rfl) ?_ _
            go_wp2
            go_roundw
            case rel => exact ⟨m + 1, by go_num, inAt_self ⟨hm, HB2.out, HOLD.out, hsz2, HBOX.out, HROW.out, HOUT.out⟩ hlt2 hsz HKM.out⟩
            case measure => simp [intOf]; omega
          · have hgd : ((k : Int) != (m : Int)) = true := by simp; omega
            have hgd' : ((k : Int) == (m : Int)) = false := by simp; omega
            have HKM := Lib.hid hkm; clear hkm
            have hn1 : w.heap.size ≠ wo.heap.size + 1 := by omega
            have hn2 : wo.heap.size + 1 ≠ w.heap.size := by omega
            have hs1 : wo.heap.size < wr.heap.size := by omega
            have hs0 : w.heap.size < wr.heap.size := by omega
            have hs2 : w.heap.size < wr.heap.size + 1 := by omega
            go_wp2
            go_region_held3 (fun w' => w'.cell? ⟨w.heap.size, k, none⟩ = some (.slice (some ⟨wo.heap.size + 1, 0, none⟩) list.length list.length)) (go_keep) (first | (go_at_call 91; refine (containsRels_any fs rel HR.out B d wo.heap.size wr.heap.size (rd_T76 list k) (rd_T76 list m) _ (Box76.below HBOX.out ?_) ?_ ?_).mono ?_; (exact join_b1 _ _); (exact join_box _ _); (exact Kd.C_below (Kd.C_below HC.out HB2.out) (join_b0 _ _ HB2.out.size)); rintro e w1 ⟨rfl, hb1⟩; obtain ⟨hc3, hf3⟩ := bcell hb1; have HB3 := Lib.hid hb1; clear hb1))
            go_wp2
            go_roundw
            case rel => exact ⟨m + 1, by go_num, inAt_other ⟨hm, HB2.out, HOLD.out, hsz2, HBOX.out, HROW.out, HOUT.out⟩ hlt2 hsz HKM.out HB3.out⟩
            case measure => simp [intOf]; omega
        · obtain rfl : m = list.length := by omega
          go_wp2
          go_roundw
          case rel => exact ⟨k + 1, by go_num, joinAt_next hlt hsz HRW.out HOB.out ⟨hm, HB2.out, HOLD.out, hsz2, HBOX.out, HROW.out, HOUT.out⟩⟩
          case measure => simp [intOf]; omega
    · go_wp2
      go_ret
      have : k = list.length := by omega
      subst this
      exact ⟨_, rfl, HBW.out, HRW.out⟩
end Go.Proofs.Ytfeempgoejnfdaa.Ord

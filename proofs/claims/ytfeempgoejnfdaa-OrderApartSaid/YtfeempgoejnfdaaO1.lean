/- The small functions of package order: each returns the Bool that is written here. No condition. -/
import Derived.Test.YtfeempgoejnfdaaO0
namespace Go.Proofs.Ytfeempgoejnfdaa.Ord
open Go.RowKit Go.Proofs.YtfeempgoejnfdaaW.PrintWords Go.Proofs.YtfeempgoejnfdaaW.PrintLast Go.Proofs.YtfeempgoejnfdaaW.PrintMore
set_option linter.unusedVariables false
set_option linter.unusedSimpArgs false
abbrev v54 (x : S54) : Value := .agg #[.int .i64 x.f0, .int .i64 x.f1, .int .i64 x.f2, .int .i64 x.f3, .bool x.f4, .bool x.f5]
abbrev v76 (x : S76) : Value := .agg #[.int .i64 x.f0.f0, .int .i64 x.f0.f1.f0, .int .i64 x.f0.f1.f1, .int .i64 x.f0.f1.f2, .int .i64 x.f0.f1.f3, .bool x.f0.f1.f4, .bool x.f0.f1.f5, .int .i64 x.f0.f2, .int .i64 x.f0.f3, .int .i64 x.f1]
/-- The call leaves all that was, and returns the Bool b. -/
def Gives (b : Bool) (w : World) (e : Ending) (w' : World) : Prop := e = .returned (.bool b) ∧ Below w.heap.size w w'
theorem bcell {W w1 : World} (hb : Below W.heap.size W w1) : (∀ b o, b < W.heap.size → w1.cell? ⟨b, o, none⟩ = W.cell? ⟨b, o, none⟩) ∧ (∀ b o, b < W.heap.size → w1.frozen? ⟨b, o, none⟩ = W.frozen? ⟨b, o, none⟩) :=
  ⟨fun b o h => hb.cell (p := ⟨b, o, none⟩) h, fun b o h => hb.frozen (p := ⟨b, o, none⟩) h⟩
theorem ret_bool {a b : Bool} (h : a = b) : Ending.returned (.bool a) = .returned (.bool b) := by rw [h]
def readsB (x : S54) : Bool := x.f0 == 1 || x.f0 == 5
def writesB (x : S54) : Bool := x.f0 == 2 || (x.f0 == 5 || x.f0 == 6)
def syncsB (x : S54) : Bool := x.f4 && (x.f0 == 1 || x.f0 == 2) || (x.f0 == 5 || x.f0 == 6)
def poB (a b : S76) : Bool := a.f0.f0 == b.f0.f0 && decide (a.f1 < b.f1)
def rfB (a b : S76) : Bool := decide (0 < a.f0.f3) && readsB b.f0.f1 && (b.f0.f2 == a.f0.f3)
def coB (a b : S76) : Bool := writesB a.f0.f1 && writesB b.f0.f1 && (a.f0.f1.f1 == b.f0.f1.f1) && decide (a.f0.f3 < b.f0.f3)
theorem reads_any (x : S54) (w : World) : Calls Try.prog 62 #[v54 x] w (Gives (readsB x) w) := by
  generalize hb : readsB x = b
  have HB := Lib.hid hb; clear hb
  go_enter Try.func62, Try.ntmps62
  go_wp2
  all_goals (go_ret; exact ⟨ret_bool (by rw [← HB.out]; simp [readsB, *]), (Below.refl _ _).alloc (Nat.le_refl _) _⟩)
theorem writes_any (x : S54) (w : World) : Calls Try.prog 63 #[v54 x] w (Gives (writesB x) w) := by
  generalize hb : writesB x = b
  have HB := Lib.hid hb; clear hb
  go_enter Try.func63, Try.ntmps63
  go_wp2
  all_goals (go_ret; exact ⟨ret_bool (by rw [← HB.out]; simp [writesB, Bool.or_assoc, *]), (Below.refl _ _).alloc (Nat.le_refl _) _⟩)
theorem syncs_any (x : S54) (w : World) : Calls Try.prog 60 #[v54 x] w (Gives (syncsB x) w) := by
  generalize hb : syncsB x = b
  have HB := Lib.hid hb; clear hb
  go_enter Try.func60, Try.ntmps60
  go_wp2
  all_goals (go_ret; exact ⟨ret_bool (by rw [← HB.out]; simp [syncsB, Bool.or_assoc, *]), (Below.refl _ _).alloc (Nat.le_refl _) _⟩)
theorem every_any (x : S54) (w : World) : Calls Try.prog 48 #[v54 x] w (Gives true w) := by
  go_enter Try.func48, Try.ntmps48
  go_wp2
  go_ret; exact ⟨rfl, (Below.refl _ _).alloc (Nat.le_refl _) _⟩
theorem po_any (x y : S76) (w : World) : Calls Try.prog 51 #[v76 x, v76 y] w (Gives (poB x y) w) := by
  generalize hb : poB x y = b
  have HB := Lib.hid hb; clear hb
  go_enter Try.func51, Try.ntmps51
  go_wp2
  all_goals (go_ret; exact ⟨ret_bool (by rw [← HB.out]; simp [poB, *]), ((Below.refl _ _).alloc (Nat.le_refl _) _).alloc (by simp) _⟩)
theorem eqA54 (d : Nat) (w : World) (x0 y0 : Int) (x1 y1 : Int) (x2 y2 : Int) (x3 y3 : Int) (x4 y4 : Bool) (x5 y5 : Bool) :
    (Op.equalIn (d + 2) 54 (.agg #[.int .i64 x0, .int .i64 x1, .int .i64 x2, .int .i64 x3, .bool x4, .bool x5]) (.agg #[.int .i64 y0, .int .i64 y1, .int .i64 y2, .int .i64 y3, .bool y4, .bool y5])).run Try.prog w = .ok (x0 == y0 && (x1 == y1 && (x2 == y2 && (x3 == y3 && (x4 == y4 && (x5 == y5)))))) w := by
  refine eqA_of Try.underlying54 (by kernel_rfl) ?_
  refine eqf_cons (by rfl) (by go_simp; rfl) (by go_simp; rfl) (by go_simp) ?_
  refine eqf_cons (by rfl) (by go_simp; rfl) (by go_simp; rfl) (by go_simp) ?_
  refine eqf_cons (by rfl) (by go_simp; rfl) (by go_simp; rfl) (by go_simp) ?_
  refine eqf_cons (by rfl) (by go_simp; rfl) (by go_simp; rfl) (by go_simp) ?_
  refine eqf_cons (by rfl) (by go_simp; rfl) (by go_simp; rfl) (by go_simp) ?_
  exact eqf_last (by rfl) (by go_simp; rfl) (by go_simp; rfl) (by go_simp)
theorem eqA68 (d : Nat) (w : World) (x0 y0 : Int) (x1 y1 : Int) (x2 y2 : Int) (x3 y3 : Int) (x4 y4 : Int) (x5 y5 : Bool) (x6 y6 : Bool) (x7 y7 : Int) (x8 y8 : Int) :
    (Op.equalIn (d + 3) 68 (.agg #[.int .i64 x0, .int .i64 x1, .int .i64 x2, .int .i64 x3, .int .i64 x4, .bool x5, .bool x6, .int .i64 x7, .int .i64 x8]) (.agg #[.int .i64 y0, .int .i64 y1, .int .i64 y2, .int .i64 y3, .int .i64 y4, .bool y5, .bool y6, .int .i64 y7, .int .i64 y8])).run Try.prog w = .ok (x0 == y0 && ((x1 == y1 && (x2 == y2 && (x3 == y3 && (x4 == y4 && (x5 == y5 && (x6 == y6)))))) && (x7 == y7 && (x8 == y8)))) w := by
  refine eqA_of Try.underlying68 (by kernel_rfl) ?_
  refine eqf_cons (by rfl) (by go_simp; rfl) (by go_simp; rfl) (by go_simp) ?_
  refine eqf_cons (by rfl) (by go_simp) (by go_simp) (eqA54 (d + 0) w _ _ _ _ _ _ _ _ _ _ _ _) ?_
  refine eqf_cons (by rfl) (by go_simp; rfl) (by go_simp; rfl) (by go_simp) ?_
  exact eqf_last (by rfl) (by go_simp; rfl) (by go_simp; rfl) (by go_simp)
theorem eqA84 (d : Nat) (w : World) (x0 y0 : Int) (x1 y1 : Int) (x2 y2 : Int) (x3 y3 : Int) (x4 y4 : Int) (x5 y5 : Bool) (x6 y6 : Bool) (x7 y7 : Int) (x8 y8 : Int) (x9 y9 : Int) :
    (Op.equalIn (d + 4) 84 (.agg #[.int .i64 x0, .int .i64 x1, .int .i64 x2, .int .i64 x3, .int .i64 x4, .bool x5, .bool x6, .int .i64 x7, .int .i64 x8, .int .i64 x9]) (.agg #[.int .i64 y0, .int .i64 y1, .int .i64 y2, .int .i64 y3, .int .i64 y4, .bool y5, .bool y6, .int .i64 y7, .int .i64 y8, .int .i64 y9])).run Try.prog w = .ok ((x0 == y0 && ((x1 == y1 && (x2 == y2 && (x3 == y3 && (x4 == y4 && (x5 == y5 && (x6 == y6)))))) && (x7 == y7 && (x8 == y8)))) && (x9 == y9)) w := by
  refine eqA_of Try.underlying84 (by kernel_rfl) ?_
  refine eqf_cons (by rfl) (by go_simp) (by go_simp) (eqA68 (d + 0) w _ _ _ _ _ _ _ _ _ _ _ _ _ _ _ _ _ _) ?_
  exact eqf_last (by rfl) (by go_simp; rfl) (by go_simp; rfl) (by go_simp)

theorem rf_any (x y : S76) (w : World) : Calls Try.prog 52 #[v76 x, v76 y] w (Gives (rfB x y) w) := by
  generalize hb : rfB x y = b
  have HB := Lib.hid hb; clear hb
  go_enter Try.func52, Try.ntmps52
  go_wp2_with (go_at_call 62; refine (reads_any y.f0.f1 _).mono ?_; rintro e w1 ⟨rfl, hb1⟩; obtain ⟨hc1, hf1⟩ := bcell hb1)
  all_goals (go_ret; refine ⟨ret_bool (by rw [← HB.out]; first | (simp [rfB, *]; done) | (simp [rfB, *]; omega)), ?_⟩; first | exact (((Below.refl _ _).alloc (Nat.le_refl _) _).alloc (by simp) _) | exact (((Below.refl _ _).alloc (Nat.le_refl _) _).alloc (by simp) _).trans (hb1.mono (by simp; omega)))
theorem co_any (x y : S76) (w : World) : Calls Try.prog 53 #[v76 x, v76 y] w (Gives (coB x y) w) := by
  generalize hb : coB x y = b
  have HB := Lib.hid hb; clear hb
  go_enter Try.func53, Try.ntmps53
  go_wp2_with fail
  refine (writes_any x.f0.f1 _).mono ?_; rintro e w1 ⟨rfl, hb1⟩; obtain ⟨hc1, hf1⟩ := bcell hb1
  have hl1 : w.heap.size + 1 < w1.heap.size := by have := hb1.size; simp at this; omega
  have hl0 : w.heap.size < w1.heap.size := by omega
  have HB1 : Below w.heap.size w w1 := (((Below.refl _ _).alloc (Nat.le_refl _) _).alloc (by simp) _).trans (hb1.mono (by simp; omega))
  cases h1 : writesB x.f0.f1
  · go_wp2
    go_ret; exact ⟨ret_bool (by rw [← HB.out]; simp [coB, *]), HB1⟩
  · go_wp2_with fail
    refine (writes_any y.f0.f1 _).mono ?_; rintro e w2 ⟨rfl, hb2⟩; obtain ⟨hc2, hf2⟩ := bcell hb2
    have HB2 : Below w.heap.size w w2 := HB1.trans (hb2.mono (by omega))
    go_wp2
    all_goals (go_ret; exact ⟨ret_bool (by rw [← HB.out]; simp [coB, *]), HB2⟩)
def c76 (x : S76) : List Value := [.int .i64 x.f0.f0, .int .i64 x.f0.f1.f0, .int .i64 x.f0.f1.f1, .int .i64 x.f0.f1.f2, .int .i64 x.f0.f1.f3, .bool x.f0.f1.f4, .bool x.f0.f1.f5, .int .i64 x.f0.f2, .int .i64 x.f0.f3, .int .i64 x.f1]
def eqB (x y : S76) : Bool := (x.f0.f0 == y.f0.f0 && ((x.f0.f1.f0 == y.f0.f1.f0 && (x.f0.f1.f1 == y.f0.f1.f1 && (x.f0.f1.f2 == y.f0.f1.f2 && (x.f0.f1.f3 == y.f0.f1.f3 && (x.f0.f1.f4 == y.f0.f1.f4 && (x.f0.f1.f5 == y.f0.f1.f5)))))) && (x.f0.f2 == y.f0.f2 && (x.f0.f3 == y.f0.f3)))) && (x.f1 == y.f1)
theorem eqB_iff (x y : S76) : eqB x y = true ↔ x = y := by
  obtain ⟨⟨a, ⟨b, c, d, e, f, g⟩, h, i⟩, j⟩ := x
  obtain ⟨⟨a', ⟨b', c', d', e', f', g'⟩, h', i'⟩, j'⟩ := y
  simp [eqB, and_assoc]
theorem run_neq84 (x y : S76) (w : World) : (binOp .neq 84 (v76 x) (v76 y)).run Try.prog w = .ok (.bool (!eqB x y)) w := by
  simp only [binOp]
  simp [Op.equal, Op.maxDepth, eqA84 9996 w, eqB]
def frB (a b : S76) : Bool := readsB a.f0.f1 && writesB b.f0.f1 && (a.f0.f1.f1 == b.f0.f1.f1) && decide (a.f0.f2 < b.f0.f3) && !eqB a b
theorem fr_any (x y : S76) (w : World) : Calls Try.prog 54 #[v76 x, v76 y] w (Gives (frB x y) w) := by
  generalize hb : frB x y = b
  have HB := Lib.hid hb; clear hb
  go_enter Try.func54, Try.ntmps54
  go_wp2_with fail
  refine (reads_any x.f0.f1 _).mono ?_; rintro e w1 ⟨rfl, hb1⟩; obtain ⟨hc1, hf1⟩ := bcell hb1
  have hl1 : w.heap.size + 1 < w1.heap.size := by have := hb1.size; simp at this; omega
  have hl0 : w.heap.size < w1.heap.size := by omega
  have HB1 : Below w.heap.size w w1 := (((Below.refl _ _).alloc (Nat.le_refl _) _).alloc (by simp) _).trans (hb1.mono (by simp; omega))
  cases h1 : readsB x.f0.f1
  · go_wp2
    go_ret; exact ⟨ret_bool (by rw [← HB.out]; simp [frB, *]), HB1⟩
  · go_wp2_with fail
    refine (writes_any y.f0.f1 _).mono ?_; rintro e w2 ⟨rfl, hb2⟩; obtain ⟨hc2, hf2⟩ := bcell hb2
    have HB2 : Below w.heap.size w w2 := HB1.trans (hb2.mono (by omega))
    go_wp2
    all_goals (go_ret; exact ⟨ret_bool (by rw [← HB.out]; first | (simp [frB, eqB, *]; done) | (simp [frB, eqB, *]; omega)), HB2⟩)
def poAtB (a b : S76) : Bool := poB a b && (a.f0.f1.f1 == b.f0.f1.f1)
theorem poAt_any (x y : S76) (w : World) : Calls Try.prog 50 #[v76 x, v76 y] w (Gives (poAtB x y) w) := by
  generalize hb : poAtB x y = b
  have HB := Lib.hid hb; clear hb
  go_enter Try.func50, Try.ntmps50
  go_wp2_with fail
  refine (po_any x y _).mono ?_; rintro e w1 ⟨rfl, hb1⟩; obtain ⟨hc1, hf1⟩ := bcell hb1
  have HB1 : Below w.heap.size w w1 := (((Below.refl _ _).alloc (Nat.le_refl _) _).alloc (by simp) _).trans (hb1.mono (by simp; omega))
  go_wp2
  all_goals (go_ret; exact ⟨ret_bool (by rw [← HB.out]; simp [poAtB, *]), HB1⟩)
def relB (a b : S76) : Bool := (a.f0.f1.f0 == 6 || a.f0.f1.f4 && a.f0.f1.f0 == 2) && (b.f0.f1.f0 == 5 || b.f0.f1.f4 && b.f0.f1.f0 == 1) && (a.f0.f1.f1 == b.f0.f1.f1) && decide (0 < a.f0.f3) && decide (a.f0.f3 ≤ b.f0.f2)
set_option maxHeartbeats 1000000 in
theorem rel_any (x y : S76) (w : World) : Calls Try.prog 94 #[v76 x, v76 y] w (Gives (relB x y) w) := by
  generalize hb : relB x y = b
  have HB := Lib.hid hb; clear hb
  have HB1 := fun (o o' : Obj) => ((Below.refl w.heap.size w).alloc (Nat.le_refl _) o).alloc (by simp) o'
  go_enter Try.func94, Try.ntmps94
  go_wp2
  all_goals (go_ret; exact ⟨ret_bool (by rw [← HB.out]; first | (simp [relB, Bool.or_assoc, Bool.and_assoc, *]; done) | (simp [relB, Bool.or_assoc, Bool.and_assoc, *]; omega)), HB1 _ _⟩)
end Go.Proofs.Ytfeempgoejnfdaa.Ord

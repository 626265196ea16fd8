/- slices.Index over nodes: what it computes. No condition. -/
import Derived.Test.YtfeempgoejnfdaaH7
namespace Go.Proofs.Ytfeempgoejnfdaa.Ord
open Go.RowKit Go.Proofs.YtfeempgoejnfdaaW.PrintWords Go.Proofs.YtfeempgoejnfdaaW.PrintLast Go.Proofs.YtfeempgoejnfdaaW.PrintMore
set_option linter.unusedVariables false
set_option linter.unusedSimpArgs false
theorem run_eql84 (x y : S76) (w : World) : (binOp .eql 84 (v76 x) (v76 y)).run Try.prog w = .ok (.bool (eqB x y)) w := by
  simp only [binOp]
  simp [Op.equal, Op.maxDepth, eqA84 9996 w, eqB]
/-- The first place of x in l; x is there. -/
def FirstGives (l : List S76) (x : S76) (w : World) (e : Ending) (w' : World) : Prop := (∃ k : Nat, e = .returned (.int .i64 k) ∧ l[k]? = some x ∧ ∀ j : Nat, j < k → l[j]? ≠ some x) ∧ Below w.heap.size w w'
set_option maxHeartbeats 1000000 in
theorem index_any (l : List S76) (x : S76) (hx : x ∈ l) (A : Option Addr) (c : Nat) (w : World) (hlen : l.length ≤ 1000000) (hC : k76.C w A l.length l) :
    Calls Try.prog 66 #[.slice A l.length c, v76 x] w (FirstGives l x w) := by
  have HC := Lib.hid hC; have HXM := Lib.hid hx; clear hC hx
  have heq := run_eql84
  go_enter Try.func66, Try.ntmps66
  go_wp2
  go_loopw [8] (fun v wr => ∃ k : Nat, v = .int .i64 k ∧ k ≤ l.length ∧ (∀ j : Nat, j < k → l[j]? ≠ some x) ∧ Below w.heap.size w wr ∧ Box76 wr w.heap.size x) (fun v _ => l.length - (intOf v).toNat)
  case atStart => exact ⟨0, rfl, by omega, fun j hj => by omega, (Below.refl _ _).alloc (Nat.le_refl _) _, Blk.new w (c76 x) 84⟩
  case round =>
    obtain ⟨k, rfl, hk, hno, hbw, hbx⟩ := hrel
    by_cases hlt : k < l.length
    · obtain ⟨y, hy⟩ : ∃ y, l[k]? = some y := ⟨_, List.getElem?_eq_getElem hlt⟩
      obtain ⟨ad, rfl, g0, g1, g2, g3, g4, g5, g6, g7, g8, g9⟩ := at_T76 (Kd.C_below HC.out hbw) (k : Int) (by omega) (by omega)
      rw [Int.toNat_natCast, rd_at l k y hy] at *
      obtain ⟨a0, a1, a2, a3, a4, a5, a6, a7, a8, a9⟩ := box_cells hbx
      have HY := Lib.hid hy; have HN := Lib.hid hno; have HB := Lib.hid hbw; have HX := Lib.hid hbx
      clear hy hno hbw hbx
      have heq' := run_eql84 x y
      cases he : eqB x y
      · go_wp2
        go_region_held3 (fun w' => w'.cell? ⟨w.heap.size, 0, none⟩ = some (.int .i64 x.f0.f0) ∧ w'.cell? ⟨w.heap.size, 1, none⟩ = some (.int .i64 x.f0.f1.f0) ∧ w'.cell? ⟨w.heap.size, 2, none⟩ = some (.int .i64 x.f0.f1.f1) ∧ w'.cell? ⟨w.heap.size, 3, none⟩ = some (.int .i64 x.f0.f1.f2) ∧ w'.cell? ⟨w.heap.size, 4, none⟩ = some (.int .i64 x.f0.f1.f3) ∧ w'.cell? ⟨w.heap.size, 5, none⟩ = some (.bool x.f0.f1.f4) ∧ w'.cell? ⟨w.heap.size, 6, none⟩ = some (.bool x.f0.f1.f5) ∧ w'.cell? ⟨w.heap.size, 7, none⟩ = some (.int .i64 x.f0.f2) ∧ w'.cell? ⟨w.heap.size, 8, none⟩ = some (.int .i64 x.f0.f3) ∧ w'.cell? ⟨w.heap.size, 9, none⟩ = some (.int .i64 x.f1) ∧ w'.cell? (ad.add (k * 10)) = some (.int .i64 y.f0.f0) ∧ w'.cell? ⟨(ad.add (k * 10)).block, (ad.add (k * 10)).off + 1, none⟩ = some (.int .i64 y.f0.f1.f0) ∧ w'.cell? ⟨(ad.add (k * 10)).block, (ad.add (k * 10)).off + 2, none⟩ = some (.int .i64 y.f0.f1.f1) ∧ w'.cell? ⟨(ad.add (k * 10)).block, (ad.add (k * 10)).off + 3, none⟩ = some (.int .i64 y.f0.f1.f2) ∧ w'.cell? ⟨(ad.add (k * 10)).block, (ad.add (k * 10)).off + 4, none⟩ = some (.int .i64 y.f0.f1.f3) ∧ w'.cell? ⟨(ad.add (k * 10)).block, (ad.add (k * 10)).off + 5, none⟩ = some (.bool y.f0.f1.f4) ∧ w'.cell? ⟨(ad.add (k * 10)).block, (ad.add (k * 10)).off + 6, none⟩ = some (.bool y.f0.f1.f5) ∧ w'.cell? ⟨(ad.add (k * 10)).block, (ad.add (k * 10)).off + 7, none⟩ = some (.int .i64 y.f0.f2) ∧ w'.cell? ⟨(ad.add (k * 10)).block, (ad.add (k * 10)).off + 8, none⟩ = some (.int .i64 y.f0.f3) ∧ w'.cell? ⟨(ad.add (k * 10)).block, (ad.add (k * 10)).off + 9, none⟩ = some (.int .i64 y.f1)) (go_keep) (fail)
        go_wp2
        go_roundw
        case rel =>
          refine ⟨k + 1, by go_num, by omega, fun j hj => ?_, below_drew HB.out, HX.out⟩
          rcases Nat.lt_or_ge j k with h1 | h1
          · exact HN.out j h1
          · obtain rfl : j = k := by omega
            rw [HY.out]; intro h2; injection h2 with h2; subst h2
            rw [(eqB_iff y y).2 rfl] at he; cases he
        case measure => simp [intOf]; omega
      · go_wp2
        go_region_held3 (fun w' => w'.cell? ⟨w.heap.size, 0, none⟩ = some (.int .i64 x.f0.f0) ∧ w'.cell? ⟨w.heap.size, 1, none⟩ = some (.int .i64 x.f0.f1.f0) ∧ w'.cell? ⟨w.heap.size, 2, none⟩ = some (.int .i64 x.f0.f1.f1) ∧ w'.cell? ⟨w.heap.size, 3, none⟩ = some (.int .i64 x.f0.f1.f2) ∧ w'.cell? ⟨w.heap.size, 4, none⟩ = some (.int .i64 x.f0.f1.f3) ∧ w'.cell? ⟨w.heap.size, 5, none⟩ = some (.bool x.f0.f1.f4) ∧ w'.cell? ⟨w.heap.size, 6, none⟩ = some (.bool x.f0.f1.f5) ∧ w'.cell? ⟨w.heap.size, 7, none⟩ = some (.int .i64 x.f0.f2) ∧ w'.cell? ⟨w.heap.size, 8, none⟩ = some (.int .i64 x.f0.f3) ∧ w'.cell? ⟨w.heap.size, 9, none⟩ = some (.int .i64 x.f1) ∧ w'.cell? (ad.add (k * 10)) = some (.int .i64 y.f0.f0) ∧ w'.cell? ⟨(ad.add (k * 10)).block, (ad.add (k * 10)).off + 1, none⟩ = some (.int .i64 y.f0.f1.f0) ∧ w'.cell? ⟨(ad.add (k * 10)).block, (ad.add (k * 10)).off + 2, none⟩ = some (.int .i64 y.f0.f1.f1) ∧ w'.cell? ⟨(ad.add (k * 10)).block, (ad.add (k * 10)).off + 3, none⟩ = some (.int .i64 y.f0.f1.f2) ∧ w'.cell? ⟨(ad.add (k * 10)).block, (ad.add (k * 10)).off + 4, none⟩ = some (.int .i64 y.f0.f1.f3) ∧ w'.cell? ⟨(ad.add (k * 10)).block, (ad.add (k * 10)).off + 5, none⟩ = some (.bool y.f0.f1.f4) ∧ w'.cell? ⟨(ad.add (k * 10)).block, (ad.add (k * 10)).off + 6, none⟩ = some (.bool y.f0.f1.f5) ∧ w'.cell? ⟨(ad.add (k * 10)).block, (ad.add (k * 10)).off + 7, none⟩ = some (.int .i64 y.f0.f2) ∧ w'.cell? ⟨(ad.add (k * 10)).block, (ad.add (k * 10)).off + 8, none⟩ = some (.int .i64 y.f0.f3) ∧ w'.cell? ⟨(ad.add (k * 10)).block, (ad.add (k * 10)).off + 9, none⟩ = some (.int .i64 y.f1)) (go_keep) (fail)
        go_wp2
        go_ret
        exact ⟨⟨k, rfl, by rw [HY.out, (eqB_iff x y).1 he], HN.out⟩, below_drew HB.out⟩
    · obtain rfl : k = l.length := by omega
      obtain ⟨j, hj, hje⟩ := List.mem_iff_getElem.1 HXM.out
      exact absurd (by rw [List.getElem?_eq_getElem hj, hje]) (hno j hj)
end Go.Proofs.Ytfeempgoejnfdaa.Ord

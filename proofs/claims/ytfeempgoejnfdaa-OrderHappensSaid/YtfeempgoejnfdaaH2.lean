/- The reference's Release: what it computes. No condition. -/
import Derived.Test.YtfeempgoejnfdaaH1
namespace Go.Proofs.Ytfeempgoejnfdaa.Ord
open Go.RowKit Go.Proofs.YtfeempgoejnfdaaW.PrintWords Go.Proofs.YtfeempgoejnfdaaW.PrintLast Go.Proofs.YtfeempgoejnfdaaW.PrintMore
set_option linter.unusedVariables false
set_option linter.unusedSimpArgs false
set_option maxRecDepth 100000 in
set_option maxHeartbeats 2000000 in
theorem release_any (x y : S76) (w : World) : Calls Try.prog 97 #[v76 x, v76 y] w (Gives (relB x y) w) := by
  generalize hb : relB x y = b
  have HB := Lib.hid hb; clear hb
  have HB1 := fun (o o' : Obj) => ((Below.refl w.heap.size w).alloc (Nat.le_refl _) o).alloc (by simp) o'
  go_enter Try.func97, Try.ntmps97
  go_wp2
  all_goals (go_ret; exact ⟨ret_bool (by rw [← HB.out]; first | (simp [relB, Bool.or_assoc, Bool.and_assoc, *]; done) | (simp [relB, Bool.or_assoc, Bool.and_assoc, *]; omega)), HB1 _ _⟩)
end Go.Proofs.Ytfeempgoejnfdaa.Ord

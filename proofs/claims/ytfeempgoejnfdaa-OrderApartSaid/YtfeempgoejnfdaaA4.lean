/- order's Apart: it answers apartR of the lock events' nodes. Ids of their own, none negative, at most a million events. -/
import Derived.Test.YtfeempgoejnfdaaA2
import Derived.Test.YtfeempgoejnfdaaA3
import Derived.Test.YtfeempgoejnfdaaO8
import Derived.Test.YtfeempgoejnfdaaO12
namespace Go.Proofs.Ytfeempgoejnfdaa.Ord
open Go.RowKit Go.Maps Go.Proofs.YtfeempgoejnfdaaW.PrintWords Go.Proofs.YtfeempgoejnfdaaW.PrintLast Go.Proofs.YtfeempgoejnfdaaW.PrintMore
set_option linter.unusedVariables false
set_option linter.unusedSimpArgs false
def lockB (x : S54) : Bool := x.f0 == 5 || x.f0 == 6
theorem lock_any (x : S54) (w : World) : Calls Try.prog 87 #[v54 x] w (Gives (lockB x) w) := by
  generalize hb : lockB x = b
  have HB := Lib.hid hb; clear hb
  go_enter Try.func87, Try.ntmps87
  go_wp2
  all_goals (go_ret; exact ⟨ret_bool (by rw [← HB.out]; simp [lockB, *]), (Below.refl _ _).alloc (Nat.le_refl _) _⟩)
theorem act87 : ActAt 87 lockB := ⟨enters_of Try.func87 (by kernel_rfl) rfl, lock_any⟩
/-- A map's element, read as it stands. -/
def heldElem (v : Value) : Option (DataW Value × List MemPlace) := some (.held v, [])
def LastD (D : DataW Value) (pre : List S76) : Prop := ∀ a : Int, has D (.int .i64 a) = (lastAt pre a).isSome ∧ D.atKey (.int .i64 a) (.held (v68 z68)) = .held (v68 (((lastAt pre a).map (·.f0)).getD z68))
theorem lastAt_snoc (pre : List S76) (n : S76) (a : Int) : lastAt (pre ++ [n]) a = if atN n = a then some n else lastAt pre a := by
  unfold lastAt
  rw [List.reverse_append]
  simp only [List.reverse_cons, List.reverse_nil, List.nil_append, List.cons_append, List.find?_cons]
  by_cases h : atN n = a
  · simp [h]
  · have : (atN n == a) = false := by simp [h]
    simp [h, this]
theorem lastD_nil : LastD (.map []) [] := fun a => ⟨rfl, rfl⟩
theorem lastD_put {D : DataW Value} {pre : List S76} (h : LastD D pre) (hm : IsMap D) (n : S76) : LastD (D.put (.int .i64 (atN n)) (.held (v68 n.f0))) (pre ++ [n]) := by
  intro a
  rw [lastAt_snoc]
  by_cases ha : atN n = a
  · subst ha
    rw [has_put_same hm (by simp [WideAt.IsKeyLit]), atKey_put_same hm (by simp [WideAt.IsKeyLit])]
    simp
  · have hne : (Lit.int .i64 a) ≠ .int .i64 (atN n) := by simp; exact fun h => ha h.symm
    rw [has_put_other hne, atKey_put_other hne, if_neg ha]
    exact h a
theorem zero68 (w : World) : (zeroValue 68).run Try.prog w = .ok (v68 z68) w := by kernel_rfl
theorem last_is {w : World} {b n : Nat} {D : DataW Value} {pre : List S76} (h : w.ownsMap Try.prog 3 heldElem b n D) (hS : LastD D pre) (x : Int) (hw : (Lit.int .i64 x).wf = true) :
    (Instr.lookup 140 (.map (some b)) (.int .i64 x) true).run Try.prog w = .ok (.tuple #[v68 (((lastAt pre x).map (·.f0)).getD z68), .bool (lastAt pre x).isSome]) w := by
  obtain ⟨v, ps, hrun, hv⟩ := h.look_ok (int_keyed Try.underlying3) Try.underlying140 (zero68 w) (zd := .held (v68 z68)) (zp := []) rfl (keyOf_int_mk Try.underlying3 hw)
  rw [(hS x).2] at hv
  rw [(hS x).1] at hrun
  simp only [heldElem, Option.some.injEq, Prod.mk.injEq, DataW.held.injEq] at hv
  rw [hrun, hv.1]
end Go.Proofs.Ytfeempgoejnfdaa.Ord

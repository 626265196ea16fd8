/- A region that draws its order and only reads ahead of its last operations, walked one operation at a time with the region's own text out of sight. No program's own facts. -/
import Derived.StillTail
import Derived.Tactics
import Derived.KernelRfl
namespace Go.Proofs.Ytfeempgoejnfdaa.Still
set_option linter.unusedVariables false
section
variable {P : Program} {ops : Array Oper} {w : World} {Q : Act → Prop} {o : Oper} {rest : List Oper} {a : Act} {v : Value}
/-- What stands in a temporary, as a guard looks at it. -/
def bitAt (tmps : Array Value) (t : Nat) : Option Bool := match tmps[t]? with
  | some (.bool b) => some b
  | _ => none
theorem region_tail {id : Nat} {Q : Exit → Act → World → Prop} {l : List Oper} (n : Nat) (gs : List (Nat × Nat)) (hm : P.follows .mixedOrders = true) (hB : Region.lexTailB .any l.toArray n = true)
    (hg : gs.all (fun p => ((l.toArray[p.1]?).bind (·.dst)) == some p.2) = true)
    (h : ∀ OPS : Array Oper, (∀ p, p ∈ gs → ∀ tmps, yielded OPS tmps p.1 = bitAt tmps p.2) → wpStill P OPS { w with drawn := w.drawn + 1 } (fun a' => wpList P OPS Q (l.drop n) a' { w with drawn := w.drawn + 1 }) (l.take n) a) : (Code.region id l.toArray true).wp P Q a w := by
  refine wp_region_still_tail n hm hB (h _ fun p hp tmps => ?_)
  have h1 := List.all_eq_true.1 hg p hp
  simp only [beq_iff_eq] at h1
  unfold yielded bitAt
  rw [h1]; rfl
theorem still_yield (hw : Region.wanted o (yielded ops a.tmps) = true) (hr : (execOp a.eval o).run P w = .ok (.value v) w) (h : wpStill P ops w Q rest (a.put o.dst v)) : wpStill P ops w Q (o :: rest) a := by
  refine wpStill_step fun K hK => ?_
  rw [if_pos hw]
  unfold Oper.still
  rw [hr, Oper.stillUpon_value]
  exact hK _ h
theorem still_skip (hw : Region.wanted o (yielded ops a.tmps) = false) (h : wpStill P ops w Q rest (a.put o.dst undef)) : wpStill P ops w Q (o :: rest) a := by
  refine wpStill_step fun K hK => ?_
  rw [if_neg (by rw [hw]; simp)]
  exact hK _ h
end
end Go.Proofs.Ytfeempgoejnfdaa.Still

/- The law's alive: it returns true. -/
import Derived.Test.YtfeempgoejnfdaaO11
import Derived.Test.YtfeempgoejnfdaaOH
namespace Go.Proofs.Ytfeempgoejnfdaa.Ord
open Go.RowKit Go.Proofs.YtfeempgoejnfdaaW.PrintWords Go.Proofs.YtfeempgoejnfdaaW.PrintLast Go.Proofs.YtfeempgoejnfdaaW.PrintMore
set_option linter.unusedVariables false
set_option linter.unusedSimpArgs false
abbrev v68 (x : S68) : Value := .agg #[.int .i64 x.f0, .int .i64 x.f1.f0, .int .i64 x.f1.f1, .int .i64 x.f1.f2, .int .i64 x.f1.f3, .bool x.f1.f4, .bool x.f1.f5, .int .i64 x.f2, .int .i64 x.f3]
def c68 (x : S68) : List Value := [.int .i64 x.f0, .int .i64 x.f1.f0, .int .i64 x.f1.f1, .int .i64 x.f1.f2, .int .i64 x.f1.f3, .bool x.f1.f4, .bool x.f1.f5, .int .i64 x.f2, .int .i64 x.f3]
def evW (t a i : Int) : S68 := ⟨t, ⟨2, a, 1, 0, false, false⟩, 0, i⟩
def evR (t a r : Int) : S68 := ⟨t, ⟨1, a, 0, 0, false, false⟩, r, 0⟩
theorem w_any (t a i : Int) (w : World) : Calls Try.prog 44 #[.int .i64 t, .int .i64 a, .int .i64 i] w fun e w' => e = .returned (v68 (evW t a i)) ∧ Below w.heap.size w w' := by
  go_enter Try.func44, Try.ntmps44
  go_wp2
  exact bodyPost_ret (v := v68 (evW t a i)) (by simp [results, Try.results44, go_sem, evW]) rfl ⟨rfl, (Below.refl _ _).alloc (Nat.le_refl _) _⟩
theorem r_any (t a i : Int) (w : World) : Calls Try.prog 45 #[.int .i64 t, .int .i64 a, .int .i64 i] w fun e w' => e = .returned (v68 (evR t a i)) ∧ Below w.heap.size w w' := by
  go_enter Try.func45, Try.ntmps45
  go_wp2
  exact bodyPost_ret (v := v68 (evR t a i)) (by simp [results, Try.results45, go_sem, evR]) rfl ⟨rfl, (Below.refl _ _).alloc (Nat.le_refl _) _⟩
theorem lit_C {α : Type} (d : Kd α) {W : World} {g t : Nat} {xs : List α} {cs : List Value} (h : Reps (d.K W) d.sz xs cs) (hb : Blk W g cs t) (hl : xs.length ≤ 1000000) : d.C W (some ⟨g, 0, none⟩) xs.length xs := by
  refine ⟨rfl, by omega, fun _ => ⟨_, rfl, fun j p hj => ⟨(cs.drop (j * d.sz)).take d.sz, ?_, h.2 j p hj, fun i u hu => ?_⟩⟩⟩
  · have hjl := (List.getElem?_eq_some_iff.1 hj).1
    have h1 : j * d.sz + d.sz ≤ cs.length := by rw [h.1, ← Nat.succ_mul]; exact Nat.mul_le_mul_right _ hjl
    rw [List.length_take, List.length_drop]; omega
  · rw [List.getElem?_take] at hu
    split at hu
    · rw [List.getElem?_drop] at hu
      rw [add_plain]
      exact hb.cell hu
    · cases hu
def run0 : List (List S68) := [[evW 0 8 1, evR 0 16 0], [evW 1 16 2, evR 1 8 0]]
theorem lit_row (W : World) (g : Nat) (x y : S68) (hb : Blk W g (c68 x ++ c68 y) 68) : k68.C W (some ⟨g, 0, none⟩) 2 [x, y] :=
  lit_C k68 (((Reps.none _ _).snoc (k68_mk W x) rfl).snoc (k68_mk W y) rfl) hb (by simp)
theorem lit_run (W : World) (g a b : Nat) (c c' : Nat) (hc : 2 ≤ c) (hc' : 2 ≤ c') (x y : List S68) (hx : x.length = 2) (hy : y.length = 2) (h1 : k68.C W (some ⟨a, 0, none⟩) 2 x) (h2 : k68.C W (some ⟨b, 0, none⟩) 2 y)
    (hb : Blk W g [.slice (some ⟨a, 0, none⟩) 2 c, .slice (some ⟨b, 0, none⟩) 2 c'] 66) : krun.C W (some ⟨g, 0, none⟩) 2 [x, y] := by
  have e1 : krun.K W x [.slice (some ⟨a, 0, none⟩) 2 c] := ⟨some ⟨a, 0, none⟩, c, by rw [hx], by omega, by rw [hx]; exact h1⟩
  have e2 : krun.K W y [.slice (some ⟨b, 0, none⟩) 2 c'] := ⟨some ⟨b, 0, none⟩, c', by rw [hy], by omega, by rw [hy]; exact h2⟩
  exact lit_C krun (((Reps.none _ _).snoc e1 rfl).snoc e2 rfl) hb (by simp)
def out0 : List (List Bool) := [[false, true, false, false], [false, false, false, false], [false, false, false, true], [false, false, false, false]]
theorem alive_serial : goC (matrixOf allB [51, 52, 53, 54] run0) 100 100 0 (List.replicate (nodesN allB run0).length 0) = some true := by decide +kernel
theorem alive_coherent : goC (matrixOf allB [50, 52, 53, 54] run0) 100 100 0 (List.replicate (nodesN allB run0).length 0) = some false := by decide +kernel
theorem alive_out : out0.length = (nodesN allB run0).length := by decide +kernel
theorem alive_ways : ∀ (i : Nat) (r : List Bool), out0[i]? = some r → rowC (aheadOf (nodesN allB run0)) 100 i = some r := by
  intro i r h
  match i with
  | 0 => injection h with h; subst h; decide +kernel
  | 1 => injection h with h; subst h; decide +kernel
  | 2 => injection h with h; subst h; decide +kernel
  | 3 => injection h with h; subst h; decide +kernel
  | i + 4 => simp [out0] at h
theorem alive_racy : racyB (nodesN allB run0) out0 = true := by decide +kernel
theorem alive_lit (w2 w4 : World) (h : Below (w2.alloc (.cells (c68 (evW 0 8 1) ++ c68 (evR 0 16 0)).toArray 68)).heap.size (w2.alloc (.cells (c68 (evW 0 8 1) ++ c68 (evR 0 16 0)).toArray 68)) w4) :
    krun.C ((w4.alloc (.cells (c68 (evW 1 16 2) ++ c68 (evR 1 8 0)).toArray 68)).alloc (.cells [Value.slice (some ⟨w2.heap.size, 0, none⟩) 2 2, Value.slice (some ⟨w4.heap.size, 0, none⟩) 2 2].toArray 66)) (some ⟨w4.heap.size + 1, 0, none⟩) 2 run0 := by
  have hz : w2.heap.size < w4.heap.size := by have := h.size; simp at this; omega
  have b1 := (((Blk.new w2 (c68 (evW 0 8 1) ++ c68 (evR 0 16 0)) 68).below h (by simp)).alloc (.cells (c68 (evW 1 16 2) ++ c68 (evR 1 8 0)).toArray 68)).alloc (.cells [Value.slice (some ⟨w2.heap.size, 0, none⟩) 2 2, Value.slice (some ⟨w4.heap.size, 0, none⟩) 2 2].toArray 66)
  have b2 := (Blk.new w4 (c68 (evW 1 16 2) ++ c68 (evR 1 8 0)) 68).alloc (.cells [Value.slice (some ⟨w2.heap.size, 0, none⟩) 2 2, Value.slice (some ⟨w4.heap.size, 0, none⟩) 2 2].toArray 66)
  have b3 := Blk.new (w4.alloc (.cells (c68 (evW 1 16 2) ++ c68 (evR 1 8 0)).toArray 68)) [Value.slice (some ⟨w2.heap.size, 0, none⟩) 2 2, Value.slice (some ⟨w4.heap.size, 0, none⟩) 2 2] 66
  rw [show (w4.alloc (.cells (c68 (evW 1 16 2) ++ c68 (evR 1 8 0)).toArray 68)).heap.size = w4.heap.size + 1 from by simp] at b3
  exact lit_run _ _ _ _ 2 2 (by omega) (by omega) _ _ rfl rfl (lit_row _ _ _ _ b1) (lit_row _ _ _ _ b2) b3
set_option maxHeartbeats 1000000 in
theorem alive_any (w : World) : Calls Try.prog 13 #[] w (Gives true w) := by
  go_enter Try.func13, Try.ntmps13
  go_wp2_with fail
  refine (w_any 0 8 1 _).mono ?_; rintro e w1 ⟨rfl, hb1⟩
  go_wp2_with fail
  refine (r_any 0 16 0 _).mono ?_; rintro e w2 ⟨rfl, hb2⟩
  have HB2 := Lib.hid (hb1.trans (hb2.mono hb1.size)); clear hb1 hb2
  go_wp2_with fail
  refine (w_any 1 16 2 _).mono ?_; rintro e w3 ⟨rfl, hb3⟩
  go_wp2_with fail
  refine (r_any 1 8 0 _).mono ?_; rintro e w4 ⟨rfl, hb4⟩
  have hb := hb3.trans (hb4.mono hb3.size)
  have HR := Lib.hid (alive_lit w2 w4 hb)
  have HB4 := Lib.hid (HB2.out.trans ((((Below.refl w2.heap.size w2).alloc (Nat.le_refl _) _).trans (hb.mono (by simp))).mono HB2.out.size) : Below w.heap.size w w4)
  clear hb hb3 hb4
  go_wp2_with fail
  refine (serial_any run0 _ 2 _ 100 100 true HR.out (by decide) (by decide) alive_serial).mono ?_; rintro e w5 ⟨rfl, hb5⟩
  have HR5 := Lib.hid (Kd.C_below HR.out hb5)
  have HB5 := Lib.hid (HB4.out.trans (((((Below.refl w4.heap.size w4).alloc (Nat.le_refl _) _).alloc (by simp) _).trans (hb5.mono (by simp; omega))).mono HB4.out.size) : Below w.heap.size w w5)
  clear hb5
  go_wp2_with fail
  refine (coherent_any run0 _ 2 _ 100 100 false HR5.out (by decide) (by decide) alive_coherent).mono ?_; rintro e w6 ⟨rfl, hb6⟩
  have HR6 := Lib.hid (Kd.C_below HR5.out hb6)
  have HB6 := Lib.hid (HB5.out.trans (hb6.mono HB5.out.size))
  clear hb6
  go_wp2_with fail
  refine (racy_any run0 _ 2 _ 100 out0 HR6.out (by decide) (by decide) alive_out alive_ways).mono ?_; rintro e w7 ⟨rfl, hb7⟩
  have HB7 := Lib.hid (HB6.out.trans (hb7.mono HB6.out.size))
  clear hb7
  rw [alive_racy]
  go_wp2
  go_ret
  exact ⟨rfl, HB7.out⟩
end Go.Proofs.Ytfeempgoejnfdaa.Ord
